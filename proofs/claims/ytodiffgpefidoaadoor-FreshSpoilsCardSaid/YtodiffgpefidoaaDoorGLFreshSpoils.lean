/- Slimmed by wip/slim.py. -/
import Derived.Test.YtodiffgpefidoaaDoorG0
import Derived.Test.YtodiffgpefidoaaDoorXSpoils
import Derived.Test.YtodiffgpefidoaaDoorGEq
import Derived.Test.YtodiffgpefidoaaDoorGFresh
import Derived.Test.YtodiffgpefidoaaDoorGFresh1
import Derived.Test.YtodiffgpefidoaaDoorGFresh2
import Derived.Test.YtodiffgpefidoaaDoorGFresh3
import Derived.Test.YtodiffgpefidoaaDoorGLaw11
import Derived.Test.YtodiffgpefidoaaDoorGLaw11R
namespace Go.Proofs.YtodiffgpefidoaaDoor.P
open Go.RowKit Go.Proofs.YtodiffgpefidoaaDoorW.PrintWords Go.Proofs.YtodiffgpefidoaaDoorW.PrintLast Go.Proofs.YtodiffgpefidoaaDoorW.PrintMore
attribute [local go_sem] max2_int min2_int max_two min_two max_three min_three max_four min_four
set_option linter.unusedVariables false
set_option linter.unusedSimpArgs false
attribute [local go_sem high] eqA28
def letterlocklaw11_FreshSpoils.f (k : Nat) (a0 : Int) (a1 : Int) (l2 : List Int) (a3 : Int) (a4 : Int) : Option (Bool) := (letterlocklaw11_shown.f k).bind fun t344 => ((letterlocklaw11_who.f a0).bind fun t345 => ((letterlocklaw11_secretOf.f k t345).bind fun t346 => ((letterlocklaw11_row.f k l2).bind fun t347 => ((fresh_Build.f k t346 t345 a1 t347).bind fun bt350 => ((fresh_Put.f k bt350.1 bt350.2.1 bt350.2.2.1 bt350.2.2.2.1 bt350.2.2.2.2.1).bind fun bt357 => (if t344 = true then (if bt350.2.2.2.2.2 = 0 then (if bt357.2 = 0 then (if (bt357.1.size : Int) = 0 then (none) else ((letterlocklaw11_pick.f a3 (bt357.1.size : Int)).bind fun t359 => ((letterlocklaw11_pick.f a4 8).bind fun t360 => ((spoilO bt357.1 t359 t360).bind fun y_ => ((fresh_Take.f k y_).bind fun bt361 => (if bt361.2.2.2.2.2 = 2 then (if (bt361.1.toList == ([] : List UInt8) && (bt361.2.1 == 0 && (bt361.2.2.1 == 0 && (bt361.2.2.2.1.toList == ([] : List UInt8) && (bt361.2.2.2.2.1.toList == ([] : List UInt8)))))) = true then (some true) else (none)) else (if bt361.2.2.2.2.2 = 0 then ((letterlocklaw11_publicOf.f k t345).bind fun t368 => ((fresh_Check.f k bt361.1 bt361.2.1 bt361.2.2.1 bt361.2.2.2.1 bt361.2.2.2.2.1 t368 t345 bt361.2.1 0).bind fun t369 => (some (t369 != 0)))) else (none)))))))) else (none)) else (none)) else (none)))))))
def letterlocklaw11_FreshSpoils.T9 : Bool × List (List Nat × List Nat) := (true, [([], []), ([], []), ([], []), ([], []), ([2, 3], [2, 3]), ([4], [4]), ([], []), ([6], [6]), ([7], [7]), ([8], [8]), ([5, 9], [5, 9]), ([0, 1, 0, 1, 2, 3, 4, 5, 6, 7, 8, 9, 10], [0, 1]), ([11, 10, 7, 0, 1, 2, 3, 4, 5, 6, 7, 8, 9, 10], [10, 11])])
def letterlocklaw11_FreshSpoils.B9 : List Nat := [0, 0, 0, 0, 12, 28, 0, 64, 192, 448, 1020, 2047, 4095]
theorem letterlocklaw11_FreshSpoils.tab9 : rtab .any (opsOf Tryd.f7 9) = letterlocklaw11_FreshSpoils.T9 := by kernel_rfl
theorem letterlocklaw11_FreshSpoils.bits9 : waitsOk letterlocklaw11_FreshSpoils.T9.2 letterlocklaw11_FreshSpoils.B9 = true := by kernel_rfl
def letterlocklaw11_FreshSpoils.T11 : Bool × List (List Nat × List Nat) := (true, [([], []), ([0], [0]), ([1], [1]), ([2], [2]), ([2], [2]), ([3, 4, 2], [2, 3, 4]), ([2, 5], [2, 5]), ([6, 2], [6]), ([7], [7]), ([8, 7], [7, 8]), ([9, 7, 7], [7, 9]), ([10], [10]), ([10], [10]), ([12, 10, 10], [10, 12]), ([10], [10]), ([10], [10]), ([15, 10], [10, 15]), ([11, 13, 14, 16, 13, 10], [10, 11, 13, 14, 16]), ([17, 10], [10, 17]), ([10, 18, 7], [7, 10, 18]), ([7, 19], [7, 19]), ([20, 17, 0, 1, 2, 3, 4, 5, 6, 7, 8, 9, 10, 11, 12, 13, 14, 15, 16, 17, 18, 19, 20], [20])])
def letterlocklaw11_FreshSpoils.B11 : List Nat := [0, 1, 3, 7, 7, 31, 63, 127, 255, 511, 1023, 2047, 2047, 6143, 2047, 2047, 34815, 131071, 262143, 524287, 1048575, 2097151]
theorem letterlocklaw11_FreshSpoils.tab11 : rtab .any (opsOf Tryd.f7 11) = letterlocklaw11_FreshSpoils.T11 := by kernel_rfl
theorem letterlocklaw11_FreshSpoils.bits11 : waitsOk letterlocklaw11_FreshSpoils.T11.2 letterlocklaw11_FreshSpoils.B11 = true := by kernel_rfl
set_option maxHeartbeats 8000000 in
set_option maxRecDepth 100000 in
theorem letterlocklaw11_FreshSpoils.calls (k : Nat) (a0 : Int) (a1 : Int) (A2 : Option Addr) (c2 : Nat) (l2 : List Int) (a3 : Int) (a4 : Int) (r : Bool) (w : World) (hr2 : Kd.C (Kd.int .i64) w A2 l2.length l2) (hc2 : l2.length ≤ c2) (h : letterlocklaw11_FreshSpoils.f k a0 a1 l2 a3 a4 = some r) (hV : Laid8 w) :
  Calls Tryd.prog 7 #[.int .i64 a0, .int .u64 a1, .slice A2 l2.length c2, .int .i64 a3, .int .i64 a4] w fun e w' => e = .returned (.bool r) ∧ Below w.heap.size w w' := by
 have HV := Aside0.mk hV
 clear hV
 have hu28 := Tryd.underlying28
 have HR2 := Aside0.mk hr2
 have HC2 := Aside0.mk hc2
 clear hr2 hc2
 have HB := Aside0.mk (Below.refl w.heap.size w)
 have H : ((letterlocklaw11_shown.f k).bind fun t344 => ((letterlocklaw11_who.f a0).bind fun t345 => ((letterlocklaw11_secretOf.f k t345).bind fun t346 => ((letterlocklaw11_row.f k l2).bind fun t347 => ((fresh_Build.f k t346 t345 a1 t347).bind fun bt350 => ((fresh_Put.f k bt350.1 bt350.2.1 bt350.2.2.1 bt350.2.2.2.1 bt350.2.2.2.2.1).bind fun bt357 => (if t344 = true then (if bt350.2.2.2.2.2 = 0 then (if bt357.2 = 0 then (if (bt357.1.size : Int) = 0 then (none) else ((letterlocklaw11_pick.f a3 (bt357.1.size : Int)).bind fun t359 => ((letterlocklaw11_pick.f a4 8).bind fun t360 => ((spoilO bt357.1 t359 t360).bind fun y_ => ((fresh_Take.f k y_).bind fun bt361 => (if bt361.2.2.2.2.2 = 2 then (if (bt361.1.toList == ([] : List UInt8) && (bt361.2.1 == 0 && (bt361.2.2.1 == 0 && (bt361.2.2.2.1.toList == ([] : List UInt8) && (bt361.2.2.2.2.1.toList == ([] : List UInt8)))))) = true then (some true) else (none)) else (if bt361.2.2.2.2.2 = 0 then ((letterlocklaw11_publicOf.f k t345).bind fun t368 => ((fresh_Check.f k bt361.1 bt361.2.1 bt361.2.2.1 bt361.2.2.2.1 bt361.2.2.2.2.1 t368 t345 bt361.2.1 0).bind fun t369 => (some (t369 != 0)))) else (none)))))))) else (none)) else (none)) else (none)))))))) = some r := h
 clear h
 replace H := Option.bind_eq_some_iff.mp H
 obtain ⟨t344, A60, H⟩ := H
 replace H : ((letterlocklaw11_who.f a0).bind fun t345 => ((letterlocklaw11_secretOf.f k t345).bind fun t346 => ((letterlocklaw11_row.f k l2).bind fun t347 => ((fresh_Build.f k t346 t345 a1 t347).bind fun bt350 => ((fresh_Put.f k bt350.1 bt350.2.1 bt350.2.2.1 bt350.2.2.2.1 bt350.2.2.2.2.1).bind fun bt357 => (if t344 = true then (if bt350.2.2.2.2.2 = 0 then (if bt357.2 = 0 then (if (bt357.1.size : Int) = 0 then (none) else ((letterlocklaw11_pick.f a3 (bt357.1.size : Int)).bind fun t359 => ((letterlocklaw11_pick.f a4 8).bind fun t360 => ((spoilO bt357.1 t359 t360).bind fun y_ => ((fresh_Take.f k y_).bind fun bt361 => (if bt361.2.2.2.2.2 = 2 then (if (bt361.1.toList == ([] : List UInt8) && (bt361.2.1 == 0 && (bt361.2.2.1 == 0 && (bt361.2.2.2.1.toList == ([] : List UInt8) && (bt361.2.2.2.2.1.toList == ([] : List UInt8)))))) = true then (some true) else (none)) else (if bt361.2.2.2.2.2 = 0 then ((letterlocklaw11_publicOf.f k t345).bind fun t368 => ((fresh_Check.f k bt361.1 bt361.2.1 bt361.2.2.1 bt361.2.2.2.1 bt361.2.2.2.2.1 t368 t345 bt361.2.1 0).bind fun t369 => (some (t369 != 0)))) else (none)))))))) else (none)) else (none)) else (none))))))) = some r := H
 have A6 := Aside0.mk A60
 clear A60
 replace H := Option.bind_eq_some_iff.mp H
 obtain ⟨t345, A70, H⟩ := H
 replace H : ((letterlocklaw11_secretOf.f k t345).bind fun t346 => ((letterlocklaw11_row.f k l2).bind fun t347 => ((fresh_Build.f k t346 t345 a1 t347).bind fun bt350 => ((fresh_Put.f k bt350.1 bt350.2.1 bt350.2.2.1 bt350.2.2.2.1 bt350.2.2.2.2.1).bind fun bt357 => (if t344 = true then (if bt350.2.2.2.2.2 = 0 then (if bt357.2 = 0 then (if (bt357.1.size : Int) = 0 then (none) else ((letterlocklaw11_pick.f a3 (bt357.1.size : Int)).bind fun t359 => ((letterlocklaw11_pick.f a4 8).bind fun t360 => ((spoilO bt357.1 t359 t360).bind fun y_ => ((fresh_Take.f k y_).bind fun bt361 => (if bt361.2.2.2.2.2 = 2 then (if (bt361.1.toList == ([] : List UInt8) && (bt361.2.1 == 0 && (bt361.2.2.1 == 0 && (bt361.2.2.2.1.toList == ([] : List UInt8) && (bt361.2.2.2.2.1.toList == ([] : List UInt8)))))) = true then (some true) else (none)) else (if bt361.2.2.2.2.2 = 0 then ((letterlocklaw11_publicOf.f k t345).bind fun t368 => ((fresh_Check.f k bt361.1 bt361.2.1 bt361.2.2.1 bt361.2.2.2.1 bt361.2.2.2.2.1 t368 t345 bt361.2.1 0).bind fun t369 => (some (t369 != 0)))) else (none)))))))) else (none)) else (none)) else (none)))))) = some r := H
 have A7 := Aside0.mk A70
 clear A70
 replace H := Option.bind_eq_some_iff.mp H
 obtain ⟨t346, A80, H⟩ := H
 replace H : ((letterlocklaw11_row.f k l2).bind fun t347 => ((fresh_Build.f k t346 t345 a1 t347).bind fun bt350 => ((fresh_Put.f k bt350.1 bt350.2.1 bt350.2.2.1 bt350.2.2.2.1 bt350.2.2.2.2.1).bind fun bt357 => (if t344 = true then (if bt350.2.2.2.2.2 = 0 then (if bt357.2 = 0 then (if (bt357.1.size : Int) = 0 then (none) else ((letterlocklaw11_pick.f a3 (bt357.1.size : Int)).bind fun t359 => ((letterlocklaw11_pick.f a4 8).bind fun t360 => ((spoilO bt357.1 t359 t360).bind fun y_ => ((fresh_Take.f k y_).bind fun bt361 => (if bt361.2.2.2.2.2 = 2 then (if (bt361.1.toList == ([] : List UInt8) && (bt361.2.1 == 0 && (bt361.2.2.1 == 0 && (bt361.2.2.2.1.toList == ([] : List UInt8) && (bt361.2.2.2.2.1.toList == ([] : List UInt8)))))) = true then (some true) else (none)) else (if bt361.2.2.2.2.2 = 0 then ((letterlocklaw11_publicOf.f k t345).bind fun t368 => ((fresh_Check.f k bt361.1 bt361.2.1 bt361.2.2.1 bt361.2.2.2.1 bt361.2.2.2.2.1 t368 t345 bt361.2.1 0).bind fun t369 => (some (t369 != 0)))) else (none)))))))) else (none)) else (none)) else (none))))) = some r := H
 have A8 := Aside0.mk A80
 clear A80
 replace H := Option.bind_eq_some_iff.mp H
 obtain ⟨t347, A90, H⟩ := H
 replace H : ((fresh_Build.f k t346 t345 a1 t347).bind fun bt350 => ((fresh_Put.f k bt350.1 bt350.2.1 bt350.2.2.1 bt350.2.2.2.1 bt350.2.2.2.2.1).bind fun bt357 => (if t344 = true then (if bt350.2.2.2.2.2 = 0 then (if bt357.2 = 0 then (if (bt357.1.size : Int) = 0 then (none) else ((letterlocklaw11_pick.f a3 (bt357.1.size : Int)).bind fun t359 => ((letterlocklaw11_pick.f a4 8).bind fun t360 => ((spoilO bt357.1 t359 t360).bind fun y_ => ((fresh_Take.f k y_).bind fun bt361 => (if bt361.2.2.2.2.2 = 2 then (if (bt361.1.toList == ([] : List UInt8) && (bt361.2.1 == 0 && (bt361.2.2.1 == 0 && (bt361.2.2.2.1.toList == ([] : List UInt8) && (bt361.2.2.2.2.1.toList == ([] : List UInt8)))))) = true then (some true) else (none)) else (if bt361.2.2.2.2.2 = 0 then ((letterlocklaw11_publicOf.f k t345).bind fun t368 => ((fresh_Check.f k bt361.1 bt361.2.1 bt361.2.2.1 bt361.2.2.2.1 bt361.2.2.2.2.1 t368 t345 bt361.2.1 0).bind fun t369 => (some (t369 != 0)))) else (none)))))))) else (none)) else (none)) else (none)))) = some r := H
 have A9 := Aside0.mk A90
 clear A90
 replace H := Option.bind_eq_some_iff.mp H
 obtain ⟨⟨t350, t351, t352, t353, t354, t355⟩, A100, H⟩ := H
 replace H : ((fresh_Put.f k t350 t351 t352 t353 t354).bind fun bt357 => (if t344 = true then (if t355 = 0 then (if bt357.2 = 0 then (if (bt357.1.size : Int) = 0 then (none) else ((letterlocklaw11_pick.f a3 (bt357.1.size : Int)).bind fun t359 => ((letterlocklaw11_pick.f a4 8).bind fun t360 => ((spoilO bt357.1 t359 t360).bind fun y_ => ((fresh_Take.f k y_).bind fun bt361 => (if bt361.2.2.2.2.2 = 2 then (if (bt361.1.toList == ([] : List UInt8) && (bt361.2.1 == 0 && (bt361.2.2.1 == 0 && (bt361.2.2.2.1.toList == ([] : List UInt8) && (bt361.2.2.2.2.1.toList == ([] : List UInt8)))))) = true then (some true) else (none)) else (if bt361.2.2.2.2.2 = 0 then ((letterlocklaw11_publicOf.f k t345).bind fun t368 => ((fresh_Check.f k bt361.1 bt361.2.1 bt361.2.2.1 bt361.2.2.2.1 bt361.2.2.2.2.1 t368 t345 bt361.2.1 0).bind fun t369 => (some (t369 != 0)))) else (none)))))))) else (none)) else (none)) else (none))) = some r := H
 have A10 := Aside0.mk A100
 clear A100
 replace H := Option.bind_eq_some_iff.mp H
 obtain ⟨⟨t357, t358⟩, A110, H⟩ := H
 replace H : (if t344 = true then (if t355 = 0 then (if t358 = 0 then (if (t357.size : Int) = 0 then (none) else ((letterlocklaw11_pick.f a3 (t357.size : Int)).bind fun t359 => ((letterlocklaw11_pick.f a4 8).bind fun t360 => ((spoilO t357 t359 t360).bind fun y_ => ((fresh_Take.f k y_).bind fun bt361 => (if bt361.2.2.2.2.2 = 2 then (if (bt361.1.toList == ([] : List UInt8) && (bt361.2.1 == 0 && (bt361.2.2.1 == 0 && (bt361.2.2.2.1.toList == ([] : List UInt8) && (bt361.2.2.2.2.1.toList == ([] : List UInt8)))))) = true then (some true) else (none)) else (if bt361.2.2.2.2.2 = 0 then ((letterlocklaw11_publicOf.f k t345).bind fun t368 => ((fresh_Check.f k bt361.1 bt361.2.1 bt361.2.2.1 bt361.2.2.2.1 bt361.2.2.2.2.1 t368 t345 bt361.2.1 0).bind fun t369 => (some (t369 != 0)))) else (none)))))))) else (none)) else (none)) else (none)) = some r := H
 have A11 := Aside0.mk A110
 clear A110
 by_cases c12 : t344 = true
 ·subst c12
  have H1 : (if t355 = 0 then (if t358 = 0 then (if (t357.size : Int) = 0 then (none) else ((letterlocklaw11_pick.f a3 (t357.size : Int)).bind fun t359 => ((letterlocklaw11_pick.f a4 8).bind fun t360 => ((spoilO t357 t359 t360).bind fun y_ => ((fresh_Take.f k y_).bind fun bt361 => (if bt361.2.2.2.2.2 = 2 then (if (bt361.1.toList == ([] : List UInt8) && (bt361.2.1 == 0 && (bt361.2.2.1 == 0 && (bt361.2.2.2.1.toList == ([] : List UInt8) && (bt361.2.2.2.2.1.toList == ([] : List UInt8)))))) = true then (some true) else (none)) else (if bt361.2.2.2.2.2 = 0 then ((letterlocklaw11_publicOf.f k t345).bind fun t368 => ((fresh_Check.f k bt361.1 bt361.2.1 bt361.2.2.1 bt361.2.2.2.1 bt361.2.2.2.2.1 t368 t345 bt361.2.1 0).bind fun t369 => (some (t369 != 0)))) else (none)))))))) else (none)) else (none)) = some r := by rw [if_pos rfl] at H; exact H
  clear H
  have H := H1
  clear H1
  by_cases c13 : t355 = 0
  ·rw [if_pos c13] at H
   have c13b0 : (t355 == 0) = true := beq_iff_eq.mpr c13
   have c13b1 : (t355 != 0) = false := bne_eq_false_iff_eq.mpr c13
   clear c13
   by_cases c14 : t358 = 0
   ·rw [if_pos c14] at H
    have c14b0 : (t358 == 0) = true := beq_iff_eq.mpr c14
    have c14b1 : (t358 != 0) = false := bne_eq_false_iff_eq.mpr c14
    clear c14
    by_cases c15 : (t357.size : Int) = 0
    ·rw [if_pos c15] at H
     exact absurd H (by simp)
    ·rw [if_neg c15] at H
     have c15b0 : ((t357.size : Int) == 0) = false := beq_eq_false_iff_ne.mpr c15
     have c15b1 : ((t357.size : Int) != 0) = true := bne_iff_ne.mpr c15
     replace H := Option.bind_eq_some_iff.mp H
     obtain ⟨t359, A160, H⟩ := H
     replace H : ((letterlocklaw11_pick.f a4 8).bind fun t360 => ((spoilO t357 t359 t360).bind fun y_ => ((fresh_Take.f k y_).bind fun bt361 => (if bt361.2.2.2.2.2 = 2 then (if (bt361.1.toList == ([] : List UInt8) && (bt361.2.1 == 0 && (bt361.2.2.1 == 0 && (bt361.2.2.2.1.toList == ([] : List UInt8) && (bt361.2.2.2.2.1.toList == ([] : List UInt8)))))) = true then (some true) else (none)) else (if bt361.2.2.2.2.2 = 0 then ((letterlocklaw11_publicOf.f k t345).bind fun t368 => ((fresh_Check.f k bt361.1 bt361.2.1 bt361.2.2.1 bt361.2.2.2.1 bt361.2.2.2.2.1 t368 t345 bt361.2.1 0).bind fun t369 => (some (t369 != 0)))) else (none)))))) = some r := H
     have A16 := Aside0.mk A160
     clear A160
     replace H := Option.bind_eq_some_iff.mp H
     obtain ⟨t360, A170, H⟩ := H
     replace H : ((spoilO t357 t359 t360).bind fun y_ => ((fresh_Take.f k y_).bind fun bt361 => (if bt361.2.2.2.2.2 = 2 then (if (bt361.1.toList == ([] : List UInt8) && (bt361.2.1 == 0 && (bt361.2.2.1 == 0 && (bt361.2.2.2.1.toList == ([] : List UInt8) && (bt361.2.2.2.2.1.toList == ([] : List UInt8)))))) = true then (some true) else (none)) else (if bt361.2.2.2.2.2 = 0 then ((letterlocklaw11_publicOf.f k t345).bind fun t368 => ((fresh_Check.f k bt361.1 bt361.2.1 bt361.2.2.1 bt361.2.2.2.1 bt361.2.2.2.2.1 t368 t345 bt361.2.1 0).bind fun t369 => (some (t369 != 0)))) else (none))))) = some r := H
     have A17 := Aside0.mk A170
     clear A170
     replace H := Option.bind_eq_some_iff.mp H
     obtain ⟨y_, AS0, H⟩ := H
     replace H : ((fresh_Take.f k y_).bind fun bt361 => (if bt361.2.2.2.2.2 = 2 then (if (bt361.1.toList == ([] : List UInt8) && (bt361.2.1 == 0 && (bt361.2.2.1 == 0 && (bt361.2.2.2.1.toList == ([] : List UInt8) && (bt361.2.2.2.2.1.toList == ([] : List UInt8)))))) = true then (some true) else (none)) else (if bt361.2.2.2.2.2 = 0 then ((letterlocklaw11_publicOf.f k t345).bind fun t368 => ((fresh_Check.f k bt361.1 bt361.2.1 bt361.2.2.1 bt361.2.2.2.1 bt361.2.2.2.2.1 t368 t345 bt361.2.1 0).bind fun t369 => (some (t369 != 0)))) else (none)))) = some r := H
     obtain ⟨sp0, sp1, sp2, sp3, rfl⟩ := spoilO.some AS0
     clear AS0
     replace H := Option.bind_eq_some_iff.mp H
     obtain ⟨⟨t361, t362, t363, t364, t365, t366⟩, A180, H⟩ := H
     replace H : (if t366 = 2 then (if (t361.toList == ([] : List UInt8) && (t362 == 0 && (t363 == 0 && (t364.toList == ([] : List UInt8) && (t365.toList == ([] : List UInt8)))))) = true then (some true) else (none)) else (if t366 = 0 then ((letterlocklaw11_publicOf.f k t345).bind fun t368 => ((fresh_Check.f k t361 t362 t363 t364 t365 t368 t345 t362 0).bind fun t369 => (some (t369 != 0)))) else (none))) = some r := H
     have A18 := Aside0.mk A180
     clear A180
     by_cases c19 : t366 = 2
     ·rw [if_pos c19] at H
      have c19b0 : (t366 == 2) = true := beq_iff_eq.mpr c19
      have c19b1 : (t366 != 2) = false := bne_eq_false_iff_eq.mpr c19
      clear c19
      by_cases c20 : (t361.toList == ([] : List UInt8) && (t362 == 0 && (t363 == 0 && (t364.toList == ([] : List UInt8) && (t365.toList == ([] : List UInt8)))))) = true
      ·rw [if_pos c20] at H
       have c20b0 : (t361.toList == ([] : List UInt8) && (t362 == 0 && (t363 == 0 && (t364.toList == ([] : List UInt8) && (t365.toList == ([] : List UInt8)))))) = true := c20
       have c20e := c20b0
       simp only [spoils.beqE] at c20e
       (try (have c20b1 : decide (t361.toList = ([] : List UInt8) && (t362 == 0 && (t363 == 0 && (t364.toList == ([] : List UInt8) && (t365.toList == ([] : List UInt8)))))) = true := by simpa using c20))
       (try (have c20b2 : (t361.toList == ([] : List UInt8) && (t362 == 0 && (t363 == 0 && (t364.toList == ([] : List UInt8) && (t365.toList == ([] : List UInt8)))))) = true := by simpa using c20))
       clear c20
       obtain rfl := Option.some.inj H
       go_enter Tryd.func7, Tryd.ntmps7
       go_wp2_with (first | ((with_reducible refine gate_callee (f := 8) rfl ?_); refine goesL_ (some 21) rfl rfl Tryd.func8 (by kernel_rfl) rfl #[] rfl (by (try simp only [List.map_toArray, List.map_cons, List.map_nil]); first | done | rfl | (simp only [List.length_drop, List.length_take]; rfl)) ?_; (with_reducible refine (letterlocklaw11_shown.calls k  true _ A6.out ?sidev).mono ?_); (case sidev => exact Laid8.below HV.out (by repeat (first | (with_reducible first | exact HB.out | apply below_alloc | apply pw_below_drewN | apply below_drew1) | exact HB.out))); rintro e w21 ⟨rfl, hb⟩; refine ⟨_, rfl, ?_⟩; have n0_ := Aside0.mk (below_step (by repeat (first | (with_reducible first | exact HB.out | apply below_alloc | apply pw_below_drewN | apply below_drew1) | exact HB.out)) hb); clear HB; have HB := n0_; clear n0_; (try clear hb); (try clear hb2); (try clear hk); (try clear hi)) | ((with_reducible refine gate_callee (f := 16) rfl ?_); refine goesL_ (some 23) rfl rfl Tryd.func16 (by kernel_rfl) rfl #[.int .i64 a0] rfl (by (try simp only [List.map_toArray, List.map_cons, List.map_nil]); first | done | rfl | (simp only [List.length_drop, List.length_take]; rfl)) ?_; (with_reducible refine (letterlocklaw11_who.calls a0 t345 _ A7.out).mono ?_); rintro e w22 ⟨rfl, hb⟩; refine ⟨_, rfl, ?_⟩; have n0_ := Aside0.mk (below_step (by repeat (first | (with_reducible first | exact HB.out | apply below_alloc | apply pw_below_drewN | apply below_drew1) | exact HB.out)) hb); clear HB; have HB := n0_; clear n0_; (try clear hb); (try clear hb2); (try clear hk); (try clear hi)) | ((with_reducible refine gate_callee (f := 11) rfl ?_); refine goesL_ (some 26) rfl rfl Tryd.func11 (by kernel_rfl) rfl #[.string t345] rfl (by (try simp only [List.map_toArray, List.map_cons, List.map_nil]); first | done | rfl | (simp only [List.length_drop, List.length_take]; rfl)) ?_; (with_reducible refine (letterlocklaw11_secretOf.calls k t345 t346 _ A8.out).mono ?_); rintro e w23 ⟨rfl, hb⟩; refine ⟨_, rfl, ?_⟩; have n0_ := Aside0.mk (below_step (by repeat (first | (with_reducible first | exact HB.out | apply below_alloc | apply pw_below_drewN | apply below_drew1) | exact HB.out)) hb); clear HB; have HB := n0_; clear n0_; (try clear hb); (try clear hb2); (try clear hk); (try clear hi)) | ((with_reducible refine gate_callee (f := 9) rfl ?_); refine goesL_ (some 30) rfl rfl Tryd.func9 (by kernel_rfl) rfl #[.slice A2 l2.length c2] rfl (by (try simp only [List.map_toArray, List.map_cons, List.map_nil]); first | done | rfl | (simp only [List.length_drop, List.length_take]; rfl)) ?_; (with_reducible refine (letterlocklaw11_row.calls k _ _ l2 t347 _ ?side1 ?side2 A9.out).mono ?_); (case side1 => repeat (first | exact (Kd.C_below HR2.out HB.out) | (with_reducible refine Kd.C_alloc ?_ _) | (with_reducible refine Kd.C_drewN ?_ _) | (with_reducible refine Kd.C_drew ?_))); (case side2 => exact HC2.out); rintro e w24 ⟨v348, rfl, ho0, hb⟩; refine ⟨_, rfl, ?_⟩; have n0_ := Aside0.mk (Kd.R_lower ho0 (below_size (by repeat (first | (with_reducible first | exact HB.out | apply below_alloc | apply pw_below_drewN | apply below_drew1) | exact HB.out)))); have n1_ := Aside0.mk (below_step (by repeat (first | (with_reducible first | exact HB.out | apply below_alloc | apply pw_below_drewN | apply below_drew1) | exact HB.out)) hb); clear HB; have HO349 := n0_; have HB := n1_; clear n0_ n1_; (try clear hb); (try clear hb2); (try clear hk); (try clear hi); (try clear ho0); obtain ⟨Ao25, co25, eo25⟩ := Kd.R_slice HO349.out; subst eo25) | ((with_reducible refine gate_callee (f := 10) rfl ?_); refine goesL_ (some 31) rfl rfl Tryd.func10 (by kernel_rfl) rfl #[.string t346, .string t345, .int .u64 a1, .slice Ao25 t347.length co25] rfl (by (try simp only [List.map_toArray, List.map_cons, List.map_nil]); first | done | rfl | (simp only [List.length_drop, List.length_take]; rfl)) ?_; (with_reducible refine (fresh_Build.calls k t346 t345 a1 _ _ t347 t350 t351 t352 t353 t354 t355 _ ?side1 ?side2 A10.out ?sidev).mono ?_); (case sidev => exact Laid8.below HV.out (by repeat (first | (with_reducible first | exact HB.out | apply below_alloc | apply pw_below_drewN | apply below_drew1) | exact HB.out))); (case side1 => repeat (first | exact (Kd.R_reads' HO349.out).2.2 | (with_reducible refine Kd.C_alloc ?_ _) | (with_reducible refine Kd.C_drewN ?_ _) | (with_reducible refine Kd.C_drew ?_))); (case side2 => exact (Kd.R_reads' HO349.out).2.1); rintro e w26 ⟨rfl, hb⟩; refine ⟨_, rfl, ?_⟩; have n0_ := Aside0.mk (Kd.R_below (by (with_reducible repeat (first | apply Kd.R_alloc | apply Kd.R_drewN | apply Kd.R_drew)); exact HO349.out) hb); have n1_ := Aside0.mk (below_step (by repeat (first | (with_reducible first | exact HB.out | apply below_alloc | apply pw_below_drewN | apply below_drew1) | exact HB.out)) hb); clear HO349; clear HB; have HO349 := n0_; have HB := n1_; clear n0_ n1_; (try clear hb); (try clear hb2); (try clear hk); (try clear hi)) | ((with_reducible refine gate_dst (N := 13) rfl ?_); (try (refine gate_guard (by rfl) ?_; dsimp only)); refine box_event ?hg (N := 13) ?hd (cs := #[.string (⟨#[]⟩ : ByteArray), .int .u64 0, .int .i64 0, .string (⟨#[]⟩ : ByteArray), .string (⟨#[]⟩ : ByteArray)]) (t := 28) ?hr ?_; (case hd => rfl); (case hg => rfl); (case hr => first | (go_simp; done) | (go_simp; rfl)); intro gb356 hg w27 hbox hb; have n0_ := Aside0.mk (Kd.R_below (by (with_reducible repeat (first | apply Kd.R_alloc | apply Kd.R_drewN | apply Kd.R_drew)); exact HO349.out) hb); have n1_ := Aside0.mk (below_step (by repeat (first | (with_reducible first | exact HB.out | apply below_alloc | apply pw_below_drewN | apply below_drew1) | exact HB.out)) hb); have n2_ := Aside0.mk (hbox); have n3_ := Aside0.mk ((by rw [hg]; exact (below_size (by repeat (first | (with_reducible first | exact HB.out | apply below_alloc | apply pw_below_drewN | apply below_drew1) | exact HB.out))) : w.heap.size ≤ gb356)); have n4_ := Aside0.mk ((by rw [hg]; exact (below_size (by repeat (first | (with_reducible first | exact HB.out | apply below_alloc | apply pw_below_drewN | apply below_drew1) | exact HB.out))) : w.heap.size ≤ gb356)); clear HO349; clear HB; have HO349 := n0_; have HB := n1_; have BK356 := n2_; have GW356 := n3_; have GE356 := n4_; clear n0_ n1_ n2_ n3_ n4_; clear hb hbox hg; have hcz28_0 : w27.cell? ⟨gb356, 0, none⟩ = some (.string (⟨#[]⟩ : ByteArray)) := (blk_cell BK356.out 0).trans rfl; have hcz28_1 : w27.cell? ⟨gb356, 1, none⟩ = some (.int .u64 0) := (blk_cell BK356.out 1).trans rfl; have hcz28_2 : w27.cell? ⟨gb356, 2, none⟩ = some (.int .i64 0) := (blk_cell BK356.out 2).trans rfl; have hcz28_3 : w27.cell? ⟨gb356, 3, none⟩ = some (.string (⟨#[]⟩ : ByteArray)) := (blk_cell BK356.out 3).trans rfl; have hcz28_4 : w27.cell? ⟨gb356, 4, none⟩ = some (.string (⟨#[]⟩ : ByteArray)) := (blk_cell BK356.out 4).trans rfl; have hfz28_0 := blk_frozen BK356.out 0; have hfz28_1 := blk_frozen BK356.out 1; have hfz28_2 := blk_frozen BK356.out 2; have hfz28_3 := blk_frozen BK356.out 3; have hfz28_4 := blk_frozen BK356.out 4) | ((with_reducible refine gate_callee (f := 19) rfl ?_); refine goesL_ (some 36) rfl rfl Tryd.func19 (by kernel_rfl) rfl #[.agg #[.string t350, .int .u64 t351, .int .i64 t352, .string t353, .string t354]] rfl (by (try simp only [List.map_toArray, List.map_cons, List.map_nil]); first | done | rfl | (simp only [List.length_drop, List.length_take]; rfl)) ?_; (with_reducible refine (fresh_Put.calls k t350 t351 t352 t353 t354 t357 t358 _ A11.out ?sidev).mono ?_); (case sidev => exact Laid8.below HV.out (by repeat (first | (with_reducible first | exact HB.out | apply below_alloc | apply pw_below_drewN | apply below_drew1 | refine below_set ?_ GE356.out) | exact HB.out))); rintro e w29 ⟨rfl, hb⟩; refine ⟨_, rfl, ?_⟩; have n0_ := Aside0.mk (Kd.R_below (by (with_reducible repeat (first | apply Kd.R_alloc | apply Kd.R_drewN | apply Kd.R_drew)); exact (Kd.R_mono (Kd.R_far (p := ⟨gb356, 4, none⟩) (Kd.R_far (p := ⟨gb356, 3, none⟩) (Kd.R_far (p := ⟨gb356, 2, none⟩) (Kd.R_far (p := ⟨gb356, 1, none⟩) (Kd.R_far (p := ⟨gb356, 0, none⟩) (Kd.R_types HO349.out BK356.out (by decide)) (fun _ hk => hk.2) (.string t350)) (fun _ hk => hk.2) (.int .u64 t351)) (fun _ hk => hk.2) (.int .i64 t352)) (fun _ hk => hk.2) (.string t353)) (fun _ hk => hk.2) (.string t354)) (fun _ h_ => h_.1))) hb); have n1_ := Aside0.mk (blk_below (g := gb356) (o := .cells #[.string t350, .int .u64 t351, .int .i64 t352, .string t353, .string t354] 28 (0, 0)) (by (with_reducible repeat (first | refine blk_drewN ?_ _ | refine blk_drew ?_ | refine blk_alloc ?_ _)); refine blk_put (cs := #[.string t350, .int .u64 t351, .int .i64 t352, .string t353, .string (⟨#[]⟩ : ByteArray)]) ?_ 4 _ rfl; (with_reducible repeat (first | refine blk_drewN ?_ _ | refine blk_drew ?_ | refine blk_alloc ?_ _)); refine blk_put (cs := #[.string t350, .int .u64 t351, .int .i64 t352, .string (⟨#[]⟩ : ByteArray), .string (⟨#[]⟩ : ByteArray)]) ?_ 3 _ rfl; (with_reducible repeat (first | refine blk_drewN ?_ _ | refine blk_drew ?_ | refine blk_alloc ?_ _)); refine blk_put (cs := #[.string t350, .int .u64 t351, .int .i64 0, .string (⟨#[]⟩ : ByteArray), .string (⟨#[]⟩ : ByteArray)]) ?_ 2 _ rfl; (with_reducible repeat (first | refine blk_drewN ?_ _ | refine blk_drew ?_ | refine blk_alloc ?_ _)); refine blk_put (cs := #[.string t350, .int .u64 0, .int .i64 0, .string (⟨#[]⟩ : ByteArray), .string (⟨#[]⟩ : ByteArray)]) ?_ 1 _ rfl; (with_reducible repeat (first | refine blk_drewN ?_ _ | refine blk_drew ?_ | refine blk_alloc ?_ _)); refine blk_put (cs := #[.string (⟨#[]⟩ : ByteArray), .int .u64 0, .int .i64 0, .string (⟨#[]⟩ : ByteArray), .string (⟨#[]⟩ : ByteArray)]) ?_ 0 _ rfl; (with_reducible repeat (first | refine blk_drewN ?_ _ | refine blk_drew ?_ | refine blk_alloc ?_ _)); exact BK356.out) hb); have n2_ := Aside0.mk (below_step (by repeat (first | (with_reducible first | exact HB.out | apply below_alloc | apply pw_below_drewN | apply below_drew1 | refine below_set ?_ GE356.out) | exact HB.out)) hb); clear HO349; clear BK356; clear HB; have HO349 := n0_; have BK356 := n1_; have HB := n2_; clear n0_ n1_ n2_; (try clear hb); (try clear hb2); (try clear hk); (try clear hi)) | ((with_reducible refine gate_dst (N := 55) rfl ?_); refine spoils.conv (by rfl) rfl (by rfl) ?_; intro gx capx csx wc hgx_ hbx_ hsx_ hcx_ hb; have n0_ := Aside0.mk (Kd.R_below (by (with_reducible repeat (first | apply Kd.R_alloc | apply Kd.R_drewN | apply Kd.R_drew)); exact HO349.out) hb); have n1_ := Aside0.mk (blk_below (g := gb356) (o := .cells #[.string t350, .int .u64 t351, .int .i64 t352, .string t353, .string t354] 28 (0, 0)) (by (with_reducible repeat (first | refine blk_drewN ?_ _ | refine blk_drew ?_ | refine blk_alloc ?_ _)); exact BK356.out) hb); have n2_ := Aside0.mk (below_step (by repeat (first | (with_reducible first | exact HB.out | apply below_alloc | apply pw_below_drewN | apply below_drew1 | refine below_set ?_ GE356.out) | exact HB.out)) hb); have n3_ := Aside0.mk hbx_; have n4_ := Aside0.mk (show w.heap.size ≤ gx by rw [hgx_]; exact (below_size (by repeat (first | (with_reducible first | exact HB.out | apply below_alloc | apply pw_below_drewN | apply below_drew1 | refine below_set ?_ GE356.out) | exact HB.out)))); have n5_ := Aside0.mk (show gb356 ≠ gx by rw [hgx_]; exact Nat.ne_of_lt (blk_lt (g := gb356) (o := .cells #[.string t350, .int .u64 t351, .int .i64 t352, .string t353, .string t354] 28 (0, 0)) (by (with_reducible repeat (first | refine blk_drewN ?_ _ | refine blk_drew ?_ | refine blk_alloc ?_ _)); exact BK356.out))); have n6_ := Aside0.mk hsx_; have n7_ := Aside0.mk hcx_; clear HO349; clear BK356; clear HB; have HO349 := n0_; have BK356 := n1_; have HB := n2_; have BKX := n3_; have GEX := n4_; have NEX := n5_; have HSX := n6_; have HCX := n7_; clear n0_ n1_ n2_ n3_ n4_ n5_ n6_ n7_; clear hb hgx_ hbx_ hsx_ hcx_) | ((with_reducible refine gate_callee (f := 13) rfl ?_); refine goesL_ (some 59) rfl rfl Tryd.func13 (by kernel_rfl) rfl #[.int .i64 a3, .int .i64 (t357.size : Int)] rfl (by (try simp only [List.map_toArray, List.map_cons, List.map_nil]); first | done | rfl | (simp only [List.length_drop, List.length_take]; rfl)) ?_; (with_reducible refine (letterlocklaw11_pick.calls a3 (t357.size : Int) t359 _ A16.out).mono ?_); rintro e w' ⟨rfl, ⟨nd, rfl⟩⟩; refine ⟨_, rfl, ?_⟩; (try (rw [drewN_self wc]; generalize hq_ : World.drewN wc _ = wc; have n0_ : Aside0 (Kd.R Kd.string 9 wc w.heap.size (fun _ => True) (.slice Ao25 t347.length co25) t347) := ⟨by rw [← hq_]; exact (by (with_reducible repeat (first | apply Kd.R_alloc | apply Kd.R_drewN | apply Kd.R_drew)); exact HO349.out)⟩; have n1_ : Aside0 (wc.heap[gb356]? = some (.cells #[.string t350, .int .u64 t351, .int .i64 t352, .string t353, .string t354] 28 (0, 0))) := ⟨by rw [← hq_]; exact (by (with_reducible repeat (first | refine blk_drewN ?_ _ | refine blk_drew ?_ | refine blk_alloc ?_ _)); exact BK356.out)⟩; have n2_ : Aside0 (Below w.heap.size w wc) := ⟨by rw [← hq_]; exact (by repeat (first | (with_reducible first | exact HB.out | apply below_alloc | apply pw_below_drewN | apply below_drew1 | refine below_set ?_ GE356.out) | exact HB.out))⟩; have n3_ : Aside0 (wc.heap[gx]? = some (.cells csx 5 (csx.size, csx.size + 1))) := ⟨by rw [← hq_]; exact (by (with_reducible repeat (first | refine blk_drewN ?_ _ | refine blk_drew ?_ | refine blk_alloc ?_ _)); exact BKX.out)⟩; clear HO349 BK356 HB BKX hq_; have BKX := n3_; have HO349 := n0_; have BK356 := n1_; have HB := n2_; clear n0_ n1_ n2_ n3_))))
       have n0_ := Aside0.mk (Kd.R_drew HO349.out)
       have n1_ := Aside0.mk (blk_drew BK356.out)
       have n2_ := Aside0.mk (blk_drew BKX.out)
       have n3_ := Aside0.mk (below_drew1 HB.out)
       clear HO349 BK356 BKX HB
       have HO349 := n0_
       have BK356 := n1_
       have BKX := n2_
       have HB := n3_
       clear n0_ n1_ n2_ n3_
       have HSC := Aside0.mk (spoils.cell (n := t359.toNat) (by omega) HCX.out BKX.out)
       have kz0 : (0 ≤ t359) = True := eq_true sp0
       have kz1 : (t359 < (t357.size : Int)) = True := eq_true sp1
       refine start_ (n := 13) (S := fun w' => Aside0 (Below wc.drew.heap.size wc.drew w')) (ds := [12]) #[false, false, false, false, false, false, false, false, false, false, false, false, false] (by kernel_rfl) rfl rfl (Aside0.mk (Below.refl _ _)) (fun hHeld => ?_); refine with_tabW letterlocklaw11_FreshSpoils.tab9 letterlocklaw11_FreshSpoils.bits9 (fun HT_ HW_ => ?_)
       generalize wc.drew = wd at HO349 BK356 BKX HB HSC hHeld ⊢
       refine pure_ (i := 0) (N := some 60) (v := ?_) (a' := ?_) #[true, false, false, false, false, false, false, false, false, false, false, false, false] rfl rfl (any_of HT_.out (by kernel_rfl)) (fun _ _ _ h => h) (Or.inl ⟨by rfl, ?_⟩) ?_ ?_
       rotate_left
       ·intro w'
        go_simp
        with_reducible rfl
       rotate_left
       ·simp only [Act.put, List.setIfInBounds_toArray, List.set_cons_zero, List.set_cons_succ, i64_w, i32_w]
        rfl
       refine pure_ (i := 1) (N := some 61) (v := ?_) (a' := ?_) #[true, true, false, false, false, false, false, false, false, false, false, false, false] rfl rfl (any_of HT_.out (by kernel_rfl)) (fun _ _ _ h => h) (Or.inl ⟨by rfl, ?_⟩) ?_ ?_
       rotate_left
       ·intro w'
        go_simp
        with_reducible rfl
       rotate_left
       ·simp only [Act.put, List.setIfInBounds_toArray, List.set_cons_zero, List.set_cons_succ, i64_w, i32_w]
        rfl
       refine pure_ (i := 2) (N := some 62) (v := ?_) (a' := ?_) #[true, true, true, false, false, false, false, false, false, false, false, false, false] rfl rfl (any_of HT_.out (by kernel_rfl)) (fun _ _ _ h => h) (Or.inl ⟨by rfl, ?_⟩) ?_ ?_
       rotate_left
       ·intro w'
        go_simp
        with_reducible rfl
       rotate_left
       ·simp only [Act.put, List.setIfInBounds_toArray, List.set_cons_zero, List.set_cons_succ, i64_w, i32_w]
        rfl
       refine pure_ (i := 3) (N := some 63) (v := ?_) (a' := ?_) #[true, true, true, true, false, false, false, false, false, false, false, false, false] rfl rfl (any_of HT_.out (by kernel_rfl)) (fun _ _ _ h => h) (Or.inl ⟨by rfl, ?_⟩) ?_ ?_
       rotate_left
       ·intro w'
        go_simp
        with_reducible rfl
       rotate_left
       ·simp only [Act.put, List.setIfInBounds_toArray, List.set_cons_zero, List.set_cons_succ, i64_w, i32_w]
        rfl
       refine pure_ (i := 4) (N := some 64) (v := ?_) (a' := ?_) #[true, true, true, true, true, false, false, false, false, false, false, false, false] rfl rfl (any_of HT_.out (by kernel_rfl)) (fun _ _ _ h => h) (Or.inl ⟨by rfl, ?_⟩) ?_ ?_
       rotate_left
       ·intro w'
        go_simp
        with_reducible rfl
       rotate_left
       ·simp only [Act.put, List.setIfInBounds_toArray, List.set_cons_zero, List.set_cons_succ, i64_w, i32_w]
        rfl
       refine take_ (i := 5) (N := some 65) (v := (.int .u8 ((t357.data.toList.getD t359.toNat 0).toNat : Int))) (a' := ?_) #[true, true, true, true, true, true, false, false, false, false, false, false, false] rfl rfl (take_ofW HT_.out HW_.out (by kernel_rfl)) (fun _ _ _ h => h) (Or.inl ⟨by rfl, ?_⟩) hHeld ?_ ?_
       ·intro w' s0
        exact spoils.load _ _ _ rfl _ gx t359.toNat _ rfl (cell_keep s0.out HSC.out)
       rotate_left
       ·simp only [Act.put, List.setIfInBounds_toArray, List.set_cons_zero, List.set_cons_succ, i64_w, i32_w]
        rfl
       refine pure_ (i := 6) (N := some 66) (v := ?_) (a' := ?_) #[true, true, true, true, true, true, true, false, false, false, false, false, false] rfl rfl (any_of HT_.out (by kernel_rfl)) (fun _ _ _ h => h) (Or.inl ⟨by rfl, ?_⟩) ?_ ?_
       rotate_left
       ·intro w'
        go_simp
        with_reducible rfl
       rotate_left
       ·simp only [Act.put, List.setIfInBounds_toArray, List.set_cons_zero, List.set_cons_succ, i64_w, i32_w]
        rfl
       refine one_ (i := 7) (N := some 67) #[true, true, true, true, true, true, true, true, false, false, false, false, false] rfl rfl (one_of HT_.out (by kernel_rfl)) (by decide) (fun K hK => ?_)
       refine goes_ Tryd.func13 (by kernel_rfl) rfl #[.int .i64 a4, .int .i64 8] (by rfl) rfl rfl (by (try simp only [List.map_toArray, List.map_cons, List.map_nil]); first | done | rfl | (simp only [List.length_drop, List.length_take]; rfl)) ?_
       refine (letterlocklaw11_pick.calls a4 8 t360 _ A17.out).mono ?_
       rintro e w' ⟨rfl, ⟨nd, rfl⟩⟩
       refine ⟨_, rfl, ?_⟩
       refine hK.out _ _ (Aside0.mk (pw_below_drewN hHeld.out nd)) (fun hHeld => ?_)
       clear hK K
       have n0_ := Aside0.mk (Kd.R_drewN HO349.out nd)
       have n1_ := Aside0.mk (blk_drewN BK356.out nd)
       have n2_ := Aside0.mk (blk_drewN BKX.out nd)
       have n3_ := Aside0.mk (pw_below_drewN HB.out nd)
       clear HO349 BK356 BKX HB HSC
       generalize World.drewN wd nd = we at n0_ n1_ n2_ n3_ hHeld ⊢
       have HO349 := n0_
       have BK356 := n1_
       have BKX := n2_
       have HB := n3_
       clear n0_ n1_ n2_ n3_
       refine norm_ (a' := ?_) ?_ ?_
       rotate_left
       ·show Act.put _ (some 67) _ = _
        simp only [Act.put, List.setIfInBounds_toArray, List.set_cons_zero, List.set_cons_succ, i64_w, i32_w]
        rfl
       refine pure_ (i := 8) (N := some 68) (v := (.int .u64 t360)) (a' := ?_) #[true, true, true, true, true, true, true, true, true, false, false, false, false] rfl rfl (any_of HT_.out (by kernel_rfl)) (fun _ _ _ h => h) (Or.inl ⟨by rfl, ?_⟩) ?_ ?_
       ·intro w'
        exact spoils.uint _ _ _ rfl t360 rfl sp2 sp3 w'
       rotate_left
       ·simp only [Act.put, List.setIfInBounds_toArray, List.set_cons_zero, List.set_cons_succ, i64_w, i32_w]
        rfl
       refine pure_ (i := 9) (N := some 69) (v := (.int .u8 ((2 ^ t360.toNat : Nat) : Int))) (a' := ?_) #[true, true, true, true, true, true, true, true, true, true, false, false, false] rfl rfl (any_of HT_.out (by kernel_rfl)) (fun _ _ _ h => h) (Or.inl ⟨by rfl, ?_⟩) ?_ ?_
       ·intro w'
        exact spoils.mask _ _ _ rfl t360 rfl rfl sp2 sp3 w'
       rotate_left
       ·simp only [Act.put, List.setIfInBounds_toArray, List.set_cons_zero, List.set_cons_succ, i64_w, i32_w]
        rfl
       refine pure_ (i := 10) (N := some 70) (v := (.int .u8 (((t357.data.toList.getD t359.toNat 0).toNat ^^^ 2 ^ t360.toNat : Nat) : Int))) (a' := ?_) #[true, true, true, true, true, true, true, true, true, true, true, false, false] rfl rfl (any_of HT_.out (by kernel_rfl)) (fun _ _ _ h => h) (Or.inl ⟨by rfl, ?_⟩) ?_ ?_
       ·intro w'
        exact spoils.xor _ _ _ _ rfl _ _ (UInt8.toNat_lt _) (Nat.pow_lt_pow_right (a := 2) (n := 8) (by decide) (by omega)) rfl rfl w'
       rotate_left
       ·simp only [Act.put, List.setIfInBounds_toArray, List.set_cons_zero, List.set_cons_succ, i64_w, i32_w]
        rfl
       refine pure_ (i := 11) (N := some 71) (v := ?_) (a' := ?_) #[true, true, true, true, true, true, true, true, true, true, true, true, false] rfl rfl (any_of HT_.out (by kernel_rfl)) (fun _ _ _ h => h) (Or.inl ⟨by rfl, ?_⟩) ?_ ?_
       rotate_left
       ·intro w'
        go_simp
        with_reducible rfl
       rotate_left
       ·simp only [Act.put, List.setIfInBounds_toArray, List.set_cons_zero, List.set_cons_succ, i64_w, i32_w]
        rfl
       refine last_ (i := 12) (N := none) #[true, true, true, true, true, true, true, true, true, true, true, true, true] rfl rfl (one_of HT_.out (by kernel_rfl)) (by decide) (fun K hK => ?_)
       refine skip_ (w1 := World.setCell we ⟨gx, t359.toNat, none⟩ (.int .u8 (((t357.data.toList.getD t359.toNat 0).toNat ^^^ 2 ^ t360.toNat : Nat) : Int))) (by rfl) rfl ?_ ?_
       ·exact spoils.store _ _ _ _ rfl _ gx t359.toNat _ _ rfl rfl (spoils.cell (by omega) HCX.out BKX.out) (spoils.frozen (by have := HSX.out; omega) BKX.out)
       refine hK.out _ _ ?_
       clear hK K
       refine done_ (done_of HT_.out (by kernel_rfl)) ?_
       have n0_ := Aside0.mk (Kd.R_mono (Kd.R_far (p := ⟨gx, t359.toNat, none⟩) (spoils.R_types HO349.out BKX.out (by decide)) (fun _ hk => hk.2) (.int .u8 (((t357.data.toList.getD t359.toNat 0).toNat ^^^ 2 ^ t360.toNat : Nat) : Int))) (fun _ hk => hk.1))
       have n1_ := Aside0.mk (blk_far (p := ⟨gx, t359.toNat, none⟩) BK356.out NEX.out (.int .u8 (((t357.data.toList.getD t359.toNat 0).toNat ^^^ 2 ^ t360.toNat : Nat) : Int)))
       have n2_ := Aside0.mk (spoils.set BKX.out t359.toNat (.int .u8 (((t357.data.toList.getD t359.toNat 0).toNat ^^^ 2 ^ t360.toNat : Nat) : Int)))
       have n3_ := Aside0.mk (below_set (j := t359.toNat) (v := (.int .u8 (((t357.data.toList.getD t359.toNat 0).toNat ^^^ 2 ^ t360.toNat : Nat) : Int))) HB.out GEX.out)
       clear HO349 BK356 BKX HB hHeld
       generalize World.setCell we ⟨gx, t359.toNat, none⟩ (.int .u8 (((t357.data.toList.getD t359.toNat 0).toNat ^^^ 2 ^ t360.toNat : Nat) : Int)) = wf at n0_ n1_ n2_ n3_ ⊢
       have HO349 := n0_
       have BK356 := n1_
       have BKX := n2_
       have HB := n3_
       clear n0_ n1_ n2_ n3_ kz0 kz1
       go_wp2_with (first | ((with_reducible refine gate_dst (N := 74) rfl ?_); refine spoils.conv_back (g := gx) (cs := csx) (by rfl) rfl (by rfl) sp0 sp1 sp2 sp3 HCX.out (by (with_reducible repeat (first | refine blk_drewN ?_ _ | refine blk_drew ?_ | refine blk_alloc ?_ _)); exact BKX.out) ?_) | ((with_reducible refine gate_callee (f := 20) rfl ?_); refine goesL_ (some 75) rfl rfl Tryd.func20 (by kernel_rfl) rfl #[.string (spoilB t357 t359 t360)] rfl (by (try simp only [List.map_toArray, List.map_cons, List.map_nil]); first | done | rfl | (simp only [List.length_drop, List.length_take]; rfl)) ?_; (with_reducible refine (fresh_Take.calls k (spoilB t357 t359 t360) t361 t362 t363 t364 t365 t366 _ A18.out ?sidev).mono ?_); (case sidev => exact Laid8.below HV.out (by repeat (first | (with_reducible first | exact HB.out | apply below_alloc | apply pw_below_drewN | apply below_drew1 | refine below_set ?_ GE356.out) | exact HB.out))); rintro e w30 ⟨rfl, hb⟩; refine ⟨_, rfl, ?_⟩; have n0_ := Aside0.mk (Kd.R_below (by (with_reducible repeat (first | apply Kd.R_alloc | apply Kd.R_drewN | apply Kd.R_drew)); exact HO349.out) hb); have n1_ := Aside0.mk (blk_below (g := gb356) (o := .cells #[.string t350, .int .u64 t351, .int .i64 t352, .string t353, .string t354] 28 (0, 0)) (by (with_reducible repeat (first | refine blk_drewN ?_ _ | refine blk_drew ?_ | refine blk_alloc ?_ _)); exact BK356.out) hb); have n2_ := Aside0.mk (below_step (by repeat (first | (with_reducible first | exact HB.out | apply below_alloc | apply pw_below_drewN | apply below_drew1 | refine below_set ?_ GE356.out) | exact HB.out)) hb); clear HO349; clear BK356; clear HB; have HO349 := n0_; have BK356 := n1_; have HB := n2_; clear n0_ n1_ n2_; (try clear hb); (try clear hb2); (try clear hk); (try clear hi)) | ((with_reducible refine gate_dst (N := 19) rfl ?_); (try (refine gate_guard (by rfl) ?_; dsimp only)); refine box_event ?hg (N := 19) ?hd (cs := #[.string (⟨#[]⟩ : ByteArray), .int .u64 0, .int .i64 0, .string (⟨#[]⟩ : ByteArray), .string (⟨#[]⟩ : ByteArray)]) (t := 28) ?hr ?_; (case hd => rfl); (case hg => rfl); (case hr => first | (go_simp; done) | (go_simp; rfl)); intro gb367 hg w31 hbox hb; have n0_ := Aside0.mk (Kd.R_below (by (with_reducible repeat (first | apply Kd.R_alloc | apply Kd.R_drewN | apply Kd.R_drew)); exact HO349.out) hb); have n1_ := Aside0.mk (blk_below (g := gb356) (o := .cells #[.string t350, .int .u64 t351, .int .i64 t352, .string t353, .string t354] 28 (0, 0)) (by (with_reducible repeat (first | refine blk_drewN ?_ _ | refine blk_drew ?_ | refine blk_alloc ?_ _)); exact BK356.out) hb); have n2_ := Aside0.mk (below_step (by repeat (first | (with_reducible first | exact HB.out | apply below_alloc | apply pw_below_drewN | apply below_drew1 | refine below_set ?_ GE356.out) | exact HB.out)) hb); have n3_ := Aside0.mk (hbox); have n4_ := Aside0.mk ((by rw [hg]; exact (below_size (by repeat (first | (with_reducible first | exact HB.out | apply below_alloc | apply pw_below_drewN | apply below_drew1 | refine below_set ?_ GE356.out) | exact HB.out))) : w.heap.size ≤ gb367)); have n5_ := Aside0.mk ((by rw [hg]; exact (below_size (by repeat (first | (with_reducible first | exact HB.out | apply below_alloc | apply pw_below_drewN | apply below_drew1 | refine below_set ?_ GE356.out) | exact HB.out))) : w.heap.size ≤ gb367)); have n6_ := Aside0.mk ((by rw [hg]; exact Nat.ne_of_lt (blk_lt (g := gb356) (o := .cells #[.string t350, .int .u64 t351, .int .i64 t352, .string t353, .string t354] 28 (0, 0)) (by (with_reducible repeat (first | refine blk_drewN ?_ _ | refine blk_drew ?_ | refine blk_alloc ?_ _)); exact BK356.out)) : gb356 ≠ gb367)); have n7_ := Aside0.mk ((by rw [hg]; exact Nat.ne_of_gt (blk_lt (g := gb356) (o := .cells #[.string t350, .int .u64 t351, .int .i64 t352, .string t353, .string t354] 28 (0, 0)) (by (with_reducible repeat (first | refine blk_drewN ?_ _ | refine blk_drew ?_ | refine blk_alloc ?_ _)); exact BK356.out)) : gb367 ≠ gb356)); clear HO349; clear BK356; clear HB; have HO349 := n0_; have BK356 := n1_; have HB := n2_; have BK367 := n3_; have GW367 := n4_; have GE367 := n5_; have NB356_367 := n6_; have NB367_356 := n7_; clear n0_ n1_ n2_ n3_ n4_ n5_ n6_ n7_; clear hb hbox hg; have hnb32 := NB367_356.out; have hnc32 := NB356_367.out; have hcz33_0 : w31.cell? ⟨gb367, 0, none⟩ = some (.string (⟨#[]⟩ : ByteArray)) := (blk_cell BK367.out 0).trans rfl; have hcz33_1 : w31.cell? ⟨gb367, 1, none⟩ = some (.int .u64 0) := (blk_cell BK367.out 1).trans rfl; have hcz33_2 : w31.cell? ⟨gb367, 2, none⟩ = some (.int .i64 0) := (blk_cell BK367.out 2).trans rfl; have hcz33_3 : w31.cell? ⟨gb367, 3, none⟩ = some (.string (⟨#[]⟩ : ByteArray)) := (blk_cell BK367.out 3).trans rfl; have hcz33_4 : w31.cell? ⟨gb367, 4, none⟩ = some (.string (⟨#[]⟩ : ByteArray)) := (blk_cell BK367.out 4).trans rfl; have hfz33_0 := blk_frozen BK367.out 0; have hfz33_1 := blk_frozen BK367.out 1; have hfz33_2 := blk_frozen BK367.out 2; have hfz33_3 := blk_frozen BK367.out 3; have hfz33_4 := blk_frozen BK367.out 4))
       have n0_ : Aside0 (Kd.R Kd.string 9 (((((w31.setCell ⟨gb367, 0, none⟩ (.string t361)).setCell ⟨gb367, 1, none⟩ (.int .u64 t362)).setCell ⟨gb367, 2, none⟩ (.int .i64 t363)).setCell ⟨gb367, 3, none⟩ (.string t364)).setCell ⟨gb367, 4, none⟩ (.string t365)) w.heap.size (fun _ => True) (.slice Ao25 t347.length co25) t347) := ⟨by (with_reducible repeat (first | apply Kd.R_alloc | apply Kd.R_drewN | apply Kd.R_drew)); exact Kd.R_mono (Kd.R_far (p := ⟨gb367, 4, none⟩) (Kd.R_far (p := ⟨gb367, 3, none⟩) (Kd.R_far (p := ⟨gb367, 2, none⟩) (Kd.R_far (p := ⟨gb367, 1, none⟩) (Kd.R_far (p := ⟨gb367, 0, none⟩) (Kd.R_types HO349.out BK367.out (by decide)) (fun _ hk => hk.2) (.string t361)) (fun _ hk => hk.2) (.int .u64 t362)) (fun _ hk => hk.2) (.int .i64 t363)) (fun _ hk => hk.2) (.string t364)) (fun _ hk => hk.2) (.string t365)) (fun _ hk => trivial)⟩
       have n1_ : Aside0 ((((((w31.setCell ⟨gb367, 0, none⟩ (.string t361)).setCell ⟨gb367, 1, none⟩ (.int .u64 t362)).setCell ⟨gb367, 2, none⟩ (.int .i64 t363)).setCell ⟨gb367, 3, none⟩ (.string t364)).setCell ⟨gb367, 4, none⟩ (.string t365)).heap[gb356]? = some (.cells #[.string t350, .int .u64 t351, .int .i64 t352, .string t353, .string t354] 28 (0, 0))) := ⟨by (with_reducible repeat (first | refine blk_drewN ?_ _ | refine blk_drew ?_ | refine blk_alloc ?_ _)); refine blk_far ?_ NB356_367.out _; (with_reducible repeat (first | refine blk_drewN ?_ _ | refine blk_drew ?_ | refine blk_alloc ?_ _)); refine blk_far ?_ NB356_367.out _; (with_reducible repeat (first | refine blk_drewN ?_ _ | refine blk_drew ?_ | refine blk_alloc ?_ _)); refine blk_far ?_ NB356_367.out _; (with_reducible repeat (first | refine blk_drewN ?_ _ | refine blk_drew ?_ | refine blk_alloc ?_ _)); refine blk_far ?_ NB356_367.out _; (with_reducible repeat (first | refine blk_drewN ?_ _ | refine blk_drew ?_ | refine blk_alloc ?_ _)); refine blk_far ?_ NB356_367.out _; (with_reducible repeat (first | refine blk_drewN ?_ _ | refine blk_drew ?_ | refine blk_alloc ?_ _)); exact BK356.out⟩
       have n2_ : Aside0 ((((((w31.setCell ⟨gb367, 0, none⟩ (.string t361)).setCell ⟨gb367, 1, none⟩ (.int .u64 t362)).setCell ⟨gb367, 2, none⟩ (.int .i64 t363)).setCell ⟨gb367, 3, none⟩ (.string t364)).setCell ⟨gb367, 4, none⟩ (.string t365)).heap[gb367]? = some (.cells #[.string t361, .int .u64 t362, .int .i64 t363, .string t364, .string t365] 28 (0, 0))) := ⟨by (with_reducible repeat (first | refine blk_drewN ?_ _ | refine blk_drew ?_ | refine blk_alloc ?_ _)); refine blk_put (cs := #[.string t361, .int .u64 t362, .int .i64 t363, .string t364, .string (⟨#[]⟩ : ByteArray)]) ?_ 4 _ rfl; (with_reducible repeat (first | refine blk_drewN ?_ _ | refine blk_drew ?_ | refine blk_alloc ?_ _)); refine blk_put (cs := #[.string t361, .int .u64 t362, .int .i64 t363, .string (⟨#[]⟩ : ByteArray), .string (⟨#[]⟩ : ByteArray)]) ?_ 3 _ rfl; (with_reducible repeat (first | refine blk_drewN ?_ _ | refine blk_drew ?_ | refine blk_alloc ?_ _)); refine blk_put (cs := #[.string t361, .int .u64 t362, .int .i64 0, .string (⟨#[]⟩ : ByteArray), .string (⟨#[]⟩ : ByteArray)]) ?_ 2 _ rfl; (with_reducible repeat (first | refine blk_drewN ?_ _ | refine blk_drew ?_ | refine blk_alloc ?_ _)); refine blk_put (cs := #[.string t361, .int .u64 0, .int .i64 0, .string (⟨#[]⟩ : ByteArray), .string (⟨#[]⟩ : ByteArray)]) ?_ 1 _ rfl; (with_reducible repeat (first | refine blk_drewN ?_ _ | refine blk_drew ?_ | refine blk_alloc ?_ _)); refine blk_put (cs := #[.string (⟨#[]⟩ : ByteArray), .int .u64 0, .int .i64 0, .string (⟨#[]⟩ : ByteArray), .string (⟨#[]⟩ : ByteArray)]) ?_ 0 _ rfl; (with_reducible repeat (first | refine blk_drewN ?_ _ | refine blk_drew ?_ | refine blk_alloc ?_ _)); exact BK367.out⟩
       have n3_ : Aside0 (Below w.heap.size w (((((w31.setCell ⟨gb367, 0, none⟩ (.string t361)).setCell ⟨gb367, 1, none⟩ (.int .u64 t362)).setCell ⟨gb367, 2, none⟩ (.int .i64 t363)).setCell ⟨gb367, 3, none⟩ (.string t364)).setCell ⟨gb367, 4, none⟩ (.string t365))) := ⟨by repeat (first | (with_reducible first | exact HB.out | apply below_alloc | apply pw_below_drewN | apply below_drew1 | refine below_set ?_ GE356.out | refine below_set ?_ GE367.out) | exact HB.out)⟩
       (try clear HO349)
       (try clear BK356)
       (try clear BK367)
       (try clear HB)
       generalize (((((w31.setCell ⟨gb367, 0, none⟩ (.string t361)).setCell ⟨gb367, 1, none⟩ (.int .u64 t362)).setCell ⟨gb367, 2, none⟩ (.int .i64 t363)).setCell ⟨gb367, 3, none⟩ (.string t364)).setCell ⟨gb367, 4, none⟩ (.string t365)) = w34 at n0_ n1_ n2_ n3_ ⊢
       have HO349 := n0_
       have BK356 := n1_
       have BK367 := n2_
       have HB := n3_
       clear n0_ n1_ n2_ n3_
       have n0_ := Aside0.mk (Kd.R_drew HO349.out)
       have n1_ := Aside0.mk (blk_drew BK356.out)
       have n2_ := Aside0.mk (blk_drew BK367.out)
       have n3_ := Aside0.mk (below_drew1 HB.out)
       clear HO349
       clear BK356
       clear BK367
       clear HB
       have HO349 := n0_
       have BK356 := n1_
       have BK367 := n2_
       have HB := n3_
       clear n0_ n1_ n2_ n3_
       refine start_ (n := 22) (S := fun w' => w'.cell? ⟨gb367, 0, none⟩ = some (.string t361) ∧ w'.cell? ⟨gb367, 1, none⟩ = some (.int .u64 t362) ∧ w'.cell? ⟨gb367, 2, none⟩ = some (.int .i64 t363) ∧ w'.cell? ⟨gb367, 3, none⟩ = some (.string t364) ∧ w'.cell? ⟨gb367, 4, none⟩ = some (.string t365)) (ds := []) #[false, false, false, false, false, false, false, false, false, false, false, false, false, false, false, false, false, false, false, false, false, false] (by kernel_rfl) rfl rfl ⟨(blk_cell BK367.out 0).trans rfl, (blk_cell BK367.out 1).trans rfl, (blk_cell BK367.out 2).trans rfl, (blk_cell BK367.out 3).trans rfl, (blk_cell BK367.out 4).trans rfl⟩ (fun hHeld => ?_); refine with_tabW letterlocklaw11_FreshSpoils.tab11 letterlocklaw11_FreshSpoils.bits11 (fun HT_ HW_ => ?_)
       generalize w34.drew = w35 at HO349 BK356 BK367 HB hHeld ⊢
       refine pure_ (i := 0) (N := some 78) (v := ?_) (a' := ?_) #[true, false, false, false, false, false, false, false, false, false, false, false, false, false, false, false, false, false, false, false, false, false] rfl rfl (any_of HT_.out (by kernel_rfl)) (fun _ _ _ h => h) (Or.inl ⟨by rfl, ?_⟩) ?_ ?_
       rotate_left
       ·intro w'
        go_simp
        with_reducible rfl
       rotate_left
       ·simp only [Act.put, List.setIfInBounds_toArray, List.set_cons_zero, List.set_cons_succ, i64_w, i32_w]
        rfl
       refine pure_ (i := 1) (N := some 79) (v := ?_) (a' := ?_) #[true, true, false, false, false, false, false, false, false, false, false, false, false, false, false, false, false, false, false, false, false, false] rfl rfl (any_of HT_.out (by kernel_rfl)) (fun _ _ _ h => h) (Or.inl ⟨by rfl, ?_⟩) ?_ ?_
       rotate_left
       ·intro w'
        go_simp
        with_reducible rfl
       rotate_left
       ·simp only [Act.put, List.setIfInBounds_toArray, List.set_cons_zero, List.set_cons_succ, i64_w, i32_w]
        rfl
       refine pure_ (i := 2) (N := some 80) (v := ?_) (a' := ?_) #[true, true, true, false, false, false, false, false, false, false, false, false, false, false, false, false, false, false, false, false, false, false] rfl rfl (any_of HT_.out (by kernel_rfl)) (fun _ _ _ h => h) (Or.inl ⟨by rfl, ?_⟩) ?_ ?_
       rotate_left
       ·intro w'
        go_simp
        with_reducible rfl
       rotate_left
       ·simp only [Act.put, List.setIfInBounds_toArray, List.set_cons_zero, List.set_cons_succ, i64_w, i32_w]
        rfl
       refine pure_ (i := 4) (N := some 82) (v := ?_) (a' := ?_) #[true, true, true, false, true, false, false, false, false, false, false, false, false, false, false, false, false, false, false, false, false, false] rfl rfl (any_of HT_.out (by kernel_rfl)) (fun _ _ _ h => h) (Or.inl ⟨by rfl, ?_⟩) ?_ ?_
       rotate_left
       ·intro w'
        go_simp
        with_reducible rfl
       rotate_left
       ·simp only [Act.put, List.setIfInBounds_toArray, List.set_cons_zero, List.set_cons_succ, i64_w, i32_w]
        rfl
       refine take_ (i := 3) (N := some 81) (v := ?_) (a' := ?_) #[true, true, true, true, true, false, false, false, false, false, false, false, false, false, false, false, false, false, false, false, false, false] rfl rfl (take_ofW HT_.out HW_.out (by kernel_rfl)) (fun _ _ _ h => h) (Or.inl ⟨by rfl, ?_⟩) hHeld ?_ ?_
       rotate_left
       ·rintro w' ⟨s0, s1, s2, s3, s4⟩
        go_simp
        with_reducible rfl
       rotate_left
       ·simp only [Act.put, List.setIfInBounds_toArray, List.set_cons_zero, List.set_cons_succ, i64_w, i32_w]
        rfl
       refine pure_ (i := 5) (N := some 83) (v := ?_) (a' := ?_) #[true, true, true, true, true, true, false, false, false, false, false, false, false, false, false, false, false, false, false, false, false, false] rfl rfl (any_of HT_.out (by kernel_rfl)) (fun _ _ _ h => h) (Or.inl ⟨by rfl, ?_⟩) ?_ ?_
       rotate_left
       ·intro w'
        go_simp
        with_reducible rfl
       rotate_left
       ·simp only [Act.put, List.setIfInBounds_toArray, List.set_cons_zero, List.set_cons_succ, i64_w, i32_w]
        rfl
       refine pure_ (i := 6) (N := some 84) (v := ?_) (a' := ?_) #[true, true, true, true, true, true, true, false, false, false, false, false, false, false, false, false, false, false, false, false, false, false] rfl rfl (any_of HT_.out (by kernel_rfl)) (fun _ _ _ h => h) (Or.inl ⟨by rfl, ?_⟩) ?_ ?_
       rotate_left
       ·intro w'
        go_simp
        with_reducible rfl
       rotate_left
       ·simp only [Act.put, List.setIfInBounds_toArray, List.set_cons_zero, List.set_cons_succ, i64_w, i32_w]
        rfl
       refine pure_ (i := 7) (N := some 85) (v := ?_) (a' := ?_) #[true, true, true, true, true, true, true, true, false, false, false, false, false, false, false, false, false, false, false, false, false, false] rfl rfl (any_of HT_.out (by kernel_rfl)) (fun _ _ _ h => h) (Or.inl ⟨by rfl, ?_⟩) ?_ ?_
       rotate_left
       ·intro w'
        go_simp
        with_reducible rfl
       rotate_left
       ·simp only [Act.put, List.setIfInBounds_toArray, List.set_cons_zero, List.set_cons_succ, i64_w, i32_w]
        rfl
       refine pure_ (i := 8) (N := some 86) (v := undef) (a' := ?_) #[true, true, true, true, true, true, true, true, true, false, false, false, false, false, false, false, false, false, false, false, false, false] rfl rfl (any_of HT_.out (by kernel_rfl)) (fun _ _ _ h => h) (Or.inr ⟨by rfl, rfl⟩) ?_ ?_
       rotate_left
       ·simp only [Act.put, List.setIfInBounds_toArray, List.set_cons_zero, List.set_cons_succ, i64_w, i32_w]
        rfl
       refine pure_ (i := 9) (N := some 87) (v := undef) (a' := ?_) #[true, true, true, true, true, true, true, true, true, true, false, false, false, false, false, false, false, false, false, false, false, false] rfl rfl (any_of HT_.out (by kernel_rfl)) (fun _ _ _ h => h) (Or.inr ⟨by rfl, rfl⟩) ?_ ?_
       rotate_left
       ·simp only [Act.put, List.setIfInBounds_toArray, List.set_cons_zero, List.set_cons_succ, i64_w, i32_w]
        rfl
       refine pure_ (i := 10) (N := some 88) (v := undef) (a' := ?_) #[true, true, true, true, true, true, true, true, true, true, true, false, false, false, false, false, false, false, false, false, false, false] rfl rfl (any_of HT_.out (by kernel_rfl)) (fun _ _ _ h => h) (Or.inr ⟨by rfl, rfl⟩) ?_ ?_
       rotate_left
       ·simp only [Act.put, List.setIfInBounds_toArray, List.set_cons_zero, List.set_cons_succ, i64_w, i32_w]
        rfl
       refine pure_ (i := 11) (N := some 89) (v := undef) (a' := ?_) #[true, true, true, true, true, true, true, true, true, true, true, true, false, false, false, false, false, false, false, false, false, false] rfl rfl (any_of HT_.out (by kernel_rfl)) (fun _ _ _ h => h) (Or.inr ⟨by rfl, rfl⟩) ?_ ?_
       rotate_left
       ·simp only [Act.put, List.setIfInBounds_toArray, List.set_cons_zero, List.set_cons_succ, i64_w, i32_w]
        rfl
       refine pure_ (i := 12) (N := some 90) (v := undef) (a' := ?_) #[true, true, true, true, true, true, true, true, true, true, true, true, true, false, false, false, false, false, false, false, false, false] rfl rfl (any_of HT_.out (by kernel_rfl)) (fun _ _ _ h => h) (Or.inr ⟨by rfl, rfl⟩) ?_ ?_
       rotate_left
       ·simp only [Act.put, List.setIfInBounds_toArray, List.set_cons_zero, List.set_cons_succ, i64_w, i32_w]
        rfl
       refine pure_ (i := 13) (N := some 91) (v := undef) (a' := ?_) #[true, true, true, true, true, true, true, true, true, true, true, true, true, true, false, false, false, false, false, false, false, false] rfl rfl (any_of HT_.out (by kernel_rfl)) (fun _ _ _ h => h) (Or.inr ⟨by rfl, rfl⟩) ?_ ?_
       rotate_left
       ·simp only [Act.put, List.setIfInBounds_toArray, List.set_cons_zero, List.set_cons_succ, i64_w, i32_w]
        rfl
       refine pure_ (i := 14) (N := some 92) (v := undef) (a' := ?_) #[true, true, true, true, true, true, true, true, true, true, true, true, true, true, true, false, false, false, false, false, false, false] rfl rfl (any_of HT_.out (by kernel_rfl)) (fun _ _ _ h => h) (Or.inr ⟨by rfl, rfl⟩) ?_ ?_
       rotate_left
       ·simp only [Act.put, List.setIfInBounds_toArray, List.set_cons_zero, List.set_cons_succ, i64_w, i32_w]
        rfl
       refine pure_ (i := 15) (N := some 93) (v := undef) (a' := ?_) #[true, true, true, true, true, true, true, true, true, true, true, true, true, true, true, true, false, false, false, false, false, false] rfl rfl (any_of HT_.out (by kernel_rfl)) (fun _ _ _ h => h) (Or.inr ⟨by rfl, rfl⟩) ?_ ?_
       rotate_left
       ·simp only [Act.put, List.setIfInBounds_toArray, List.set_cons_zero, List.set_cons_succ, i64_w, i32_w]
        rfl
       refine pure_ (i := 16) (N := some 94) (v := undef) (a' := ?_) #[true, true, true, true, true, true, true, true, true, true, true, true, true, true, true, true, true, false, false, false, false, false] rfl rfl (any_of HT_.out (by kernel_rfl)) (fun _ _ _ h => h) (Or.inr ⟨by rfl, rfl⟩) ?_ ?_
       rotate_left
       ·simp only [Act.put, List.setIfInBounds_toArray, List.set_cons_zero, List.set_cons_succ, i64_w, i32_w]
        rfl
       refine pure_ (i := 17) (N := some 95) (v := undef) (a' := ?_) #[true, true, true, true, true, true, true, true, true, true, true, true, true, true, true, true, true, true, false, false, false, false] rfl rfl (any_of HT_.out (by kernel_rfl)) (fun _ _ _ h => h) (Or.inr ⟨by rfl, rfl⟩) ?_ ?_
       rotate_left
       ·simp only [Act.put, List.setIfInBounds_toArray, List.set_cons_zero, List.set_cons_succ, i64_w, i32_w]
        rfl
       refine pure_ (i := 18) (N := some 96) (v := undef) (a' := ?_) #[true, true, true, true, true, true, true, true, true, true, true, true, true, true, true, true, true, true, true, false, false, false] rfl rfl (any_of HT_.out (by kernel_rfl)) (fun _ _ _ h => h) (Or.inr ⟨by rfl, rfl⟩) ?_ ?_
       rotate_left
       ·simp only [Act.put, List.setIfInBounds_toArray, List.set_cons_zero, List.set_cons_succ, i64_w, i32_w]
        rfl
       refine pure_ (i := 19) (N := some 97) (v := undef) (a' := ?_) #[true, true, true, true, true, true, true, true, true, true, true, true, true, true, true, true, true, true, true, true, false, false] rfl rfl (any_of HT_.out (by kernel_rfl)) (fun _ _ _ h => h) (Or.inr ⟨by rfl, rfl⟩) ?_ ?_
       rotate_left
       ·simp only [Act.put, List.setIfInBounds_toArray, List.set_cons_zero, List.set_cons_succ, i64_w, i32_w]
        rfl
       refine pure_ (i := 20) (N := some 98) (v := ?_) (a' := ?_) #[true, true, true, true, true, true, true, true, true, true, true, true, true, true, true, true, true, true, true, true, true, false] rfl rfl (any_of HT_.out (by kernel_rfl)) (fun _ _ _ h => h) (Or.inl ⟨by rfl, ?_⟩) ?_ ?_
       rotate_left
       ·intro w'
        go_simp
        with_reducible rfl
       rotate_left
       ·simp only [Act.put, List.setIfInBounds_toArray, List.set_cons_zero, List.set_cons_succ, i64_w, i32_w]
        rfl
       refine pure_ (i := 21) (N := some 10) (v := ?_) (a' := ?_) #[true, true, true, true, true, true, true, true, true, true, true, true, true, true, true, true, true, true, true, true, true, true] rfl rfl (any_of HT_.out (by kernel_rfl)) (fun _ _ _ h => h) (Or.inl ⟨by rfl, ?_⟩) ?_ ?_
       rotate_left
       ·intro w'
        go_simp
        with_reducible rfl
       rotate_left
       ·simp only [Act.put, List.setIfInBounds_toArray, List.set_cons_zero, List.set_cons_succ, i64_w, i32_w]
        rfl
       refine done_ (done_of HT_.out (by kernel_rfl)) ?_
       try go_wp2
       go_ret
       exact ⟨by first | rfl | (simp [errW_none, errW_some] <;> rfl) | (simp [*, errW_none, errW_some] <;> rfl), by repeat (first | (with_reducible first | exact HB.out | apply below_alloc | apply pw_below_drewN | apply below_drew1 | refine below_set ?_ GE356.out | refine below_set ?_ GE367.out) | exact HB.out)⟩
      ·rw [if_neg c20] at H
       exact absurd H (by simp)
     ·rw [if_neg c19] at H
      have c19b0 : (t366 == 2) = false := beq_eq_false_iff_ne.mpr c19
      have c19b1 : (t366 != 2) = true := bne_iff_ne.mpr c19
      by_cases c36 : t366 = 0
      ·rw [if_pos c36] at H
       have c36b0 : (t366 == 0) = true := beq_iff_eq.mpr c36
       have c36b1 : (t366 != 0) = false := bne_eq_false_iff_eq.mpr c36
       clear c36
       replace H := Option.bind_eq_some_iff.mp H
       obtain ⟨t368, A370, H⟩ := H
       replace H : ((fresh_Check.f k t361 t362 t363 t364 t365 t368 t345 t362 0).bind fun t369 => (some (t369 != 0))) = some r := H
       have A37 := Aside0.mk A370
       clear A370
       replace H := Option.bind_eq_some_iff.mp H
       obtain ⟨t369, A380, H⟩ := H
       replace H : (some (t369 != 0)) = some r := H
       have A38 := Aside0.mk A380
       clear A380
       obtain rfl := Option.some.inj H
       go_enter Tryd.func7, Tryd.ntmps7
       go_wp2_with (first | ((with_reducible refine gate_callee (f := 8) rfl ?_); refine goesL_ (some 21) rfl rfl Tryd.func8 (by kernel_rfl) rfl #[] rfl (by (try simp only [List.map_toArray, List.map_cons, List.map_nil]); first | done | rfl | (simp only [List.length_drop, List.length_take]; rfl)) ?_; (with_reducible refine (letterlocklaw11_shown.calls k  true _ A6.out ?sidev).mono ?_); (case sidev => exact Laid8.below HV.out (by repeat (first | (with_reducible first | exact HB.out | apply below_alloc | apply pw_below_drewN | apply below_drew1) | exact HB.out))); rintro e w39 ⟨rfl, hb⟩; refine ⟨_, rfl, ?_⟩; have n0_ := Aside0.mk (below_step (by repeat (first | (with_reducible first | exact HB.out | apply below_alloc | apply pw_below_drewN | apply below_drew1) | exact HB.out)) hb); clear HB; have HB := n0_; clear n0_; (try clear hb); (try clear hb2); (try clear hk); (try clear hi)) | ((with_reducible refine gate_callee (f := 16) rfl ?_); refine goesL_ (some 23) rfl rfl Tryd.func16 (by kernel_rfl) rfl #[.int .i64 a0] rfl (by (try simp only [List.map_toArray, List.map_cons, List.map_nil]); first | done | rfl | (simp only [List.length_drop, List.length_take]; rfl)) ?_; (with_reducible refine (letterlocklaw11_who.calls a0 t345 _ A7.out).mono ?_); rintro e w40 ⟨rfl, hb⟩; refine ⟨_, rfl, ?_⟩; have n0_ := Aside0.mk (below_step (by repeat (first | (with_reducible first | exact HB.out | apply below_alloc | apply pw_below_drewN | apply below_drew1) | exact HB.out)) hb); clear HB; have HB := n0_; clear n0_; (try clear hb); (try clear hb2); (try clear hk); (try clear hi)) | ((with_reducible refine gate_callee (f := 11) rfl ?_); refine goesL_ (some 26) rfl rfl Tryd.func11 (by kernel_rfl) rfl #[.string t345] rfl (by (try simp only [List.map_toArray, List.map_cons, List.map_nil]); first | done | rfl | (simp only [List.length_drop, List.length_take]; rfl)) ?_; (with_reducible refine (letterlocklaw11_secretOf.calls k t345 t346 _ A8.out).mono ?_); rintro e w41 ⟨rfl, hb⟩; refine ⟨_, rfl, ?_⟩; have n0_ := Aside0.mk (below_step (by repeat (first | (with_reducible first | exact HB.out | apply below_alloc | apply pw_below_drewN | apply below_drew1) | exact HB.out)) hb); clear HB; have HB := n0_; clear n0_; (try clear hb); (try clear hb2); (try clear hk); (try clear hi)) | ((with_reducible refine gate_callee (f := 9) rfl ?_); refine goesL_ (some 30) rfl rfl Tryd.func9 (by kernel_rfl) rfl #[.slice A2 l2.length c2] rfl (by (try simp only [List.map_toArray, List.map_cons, List.map_nil]); first | done | rfl | (simp only [List.length_drop, List.length_take]; rfl)) ?_; (with_reducible refine (letterlocklaw11_row.calls k _ _ l2 t347 _ ?side1 ?side2 A9.out).mono ?_); (case side1 => repeat (first | exact (Kd.C_below HR2.out HB.out) | (with_reducible refine Kd.C_alloc ?_ _) | (with_reducible refine Kd.C_drewN ?_ _) | (with_reducible refine Kd.C_drew ?_))); (case side2 => exact HC2.out); rintro e w42 ⟨v348, rfl, ho0, hb⟩; refine ⟨_, rfl, ?_⟩; have n0_ := Aside0.mk (Kd.R_lower ho0 (below_size (by repeat (first | (with_reducible first | exact HB.out | apply below_alloc | apply pw_below_drewN | apply below_drew1) | exact HB.out)))); have n1_ := Aside0.mk (below_step (by repeat (first | (with_reducible first | exact HB.out | apply below_alloc | apply pw_below_drewN | apply below_drew1) | exact HB.out)) hb); clear HB; have HO349 := n0_; have HB := n1_; clear n0_ n1_; (try clear hb); (try clear hb2); (try clear hk); (try clear hi); (try clear ho0); obtain ⟨Ao43, co43, eo43⟩ := Kd.R_slice HO349.out; subst eo43) | ((with_reducible refine gate_callee (f := 10) rfl ?_); refine goesL_ (some 31) rfl rfl Tryd.func10 (by kernel_rfl) rfl #[.string t346, .string t345, .int .u64 a1, .slice Ao43 t347.length co43] rfl (by (try simp only [List.map_toArray, List.map_cons, List.map_nil]); first | done | rfl | (simp only [List.length_drop, List.length_take]; rfl)) ?_; (with_reducible refine (fresh_Build.calls k t346 t345 a1 _ _ t347 t350 t351 t352 t353 t354 t355 _ ?side1 ?side2 A10.out ?sidev).mono ?_); (case sidev => exact Laid8.below HV.out (by repeat (first | (with_reducible first | exact HB.out | apply below_alloc | apply pw_below_drewN | apply below_drew1) | exact HB.out))); (case side1 => repeat (first | exact (Kd.R_reads' HO349.out).2.2 | (with_reducible refine Kd.C_alloc ?_ _) | (with_reducible refine Kd.C_drewN ?_ _) | (with_reducible refine Kd.C_drew ?_))); (case side2 => exact (Kd.R_reads' HO349.out).2.1); rintro e w44 ⟨rfl, hb⟩; refine ⟨_, rfl, ?_⟩; have n0_ := Aside0.mk (Kd.R_below (by (with_reducible repeat (first | apply Kd.R_alloc | apply Kd.R_drewN | apply Kd.R_drew)); exact HO349.out) hb); have n1_ := Aside0.mk (below_step (by repeat (first | (with_reducible first | exact HB.out | apply below_alloc | apply pw_below_drewN | apply below_drew1) | exact HB.out)) hb); clear HO349; clear HB; have HO349 := n0_; have HB := n1_; clear n0_ n1_; (try clear hb); (try clear hb2); (try clear hk); (try clear hi)) | ((with_reducible refine gate_dst (N := 13) rfl ?_); (try (refine gate_guard (by rfl) ?_; dsimp only)); refine box_event ?hg (N := 13) ?hd (cs := #[.string (⟨#[]⟩ : ByteArray), .int .u64 0, .int .i64 0, .string (⟨#[]⟩ : ByteArray), .string (⟨#[]⟩ : ByteArray)]) (t := 28) ?hr ?_; (case hd => rfl); (case hg => rfl); (case hr => first | (go_simp; done) | (go_simp; rfl)); intro gb356 hg w45 hbox hb; have n0_ := Aside0.mk (Kd.R_below (by (with_reducible repeat (first | apply Kd.R_alloc | apply Kd.R_drewN | apply Kd.R_drew)); exact HO349.out) hb); have n1_ := Aside0.mk (below_step (by repeat (first | (with_reducible first | exact HB.out | apply below_alloc | apply pw_below_drewN | apply below_drew1) | exact HB.out)) hb); have n2_ := Aside0.mk (hbox); have n3_ := Aside0.mk ((by rw [hg]; exact (below_size (by repeat (first | (with_reducible first | exact HB.out | apply below_alloc | apply pw_below_drewN | apply below_drew1) | exact HB.out))) : w.heap.size ≤ gb356)); have n4_ := Aside0.mk ((by rw [hg]; exact (below_size (by repeat (first | (with_reducible first | exact HB.out | apply below_alloc | apply pw_below_drewN | apply below_drew1) | exact HB.out))) : w.heap.size ≤ gb356)); clear HO349; clear HB; have HO349 := n0_; have HB := n1_; have BK356 := n2_; have GW356 := n3_; have GE356 := n4_; clear n0_ n1_ n2_ n3_ n4_; clear hb hbox hg; have hcz46_0 : w45.cell? ⟨gb356, 0, none⟩ = some (.string (⟨#[]⟩ : ByteArray)) := (blk_cell BK356.out 0).trans rfl; have hcz46_1 : w45.cell? ⟨gb356, 1, none⟩ = some (.int .u64 0) := (blk_cell BK356.out 1).trans rfl; have hcz46_2 : w45.cell? ⟨gb356, 2, none⟩ = some (.int .i64 0) := (blk_cell BK356.out 2).trans rfl; have hcz46_3 : w45.cell? ⟨gb356, 3, none⟩ = some (.string (⟨#[]⟩ : ByteArray)) := (blk_cell BK356.out 3).trans rfl; have hcz46_4 : w45.cell? ⟨gb356, 4, none⟩ = some (.string (⟨#[]⟩ : ByteArray)) := (blk_cell BK356.out 4).trans rfl; have hfz46_0 := blk_frozen BK356.out 0; have hfz46_1 := blk_frozen BK356.out 1; have hfz46_2 := blk_frozen BK356.out 2; have hfz46_3 := blk_frozen BK356.out 3; have hfz46_4 := blk_frozen BK356.out 4) | ((with_reducible refine gate_callee (f := 19) rfl ?_); refine goesL_ (some 36) rfl rfl Tryd.func19 (by kernel_rfl) rfl #[.agg #[.string t350, .int .u64 t351, .int .i64 t352, .string t353, .string t354]] rfl (by (try simp only [List.map_toArray, List.map_cons, List.map_nil]); first | done | rfl | (simp only [List.length_drop, List.length_take]; rfl)) ?_; (with_reducible refine (fresh_Put.calls k t350 t351 t352 t353 t354 t357 t358 _ A11.out ?sidev).mono ?_); (case sidev => exact Laid8.below HV.out (by repeat (first | (with_reducible first | exact HB.out | apply below_alloc | apply pw_below_drewN | apply below_drew1 | refine below_set ?_ GE356.out) | exact HB.out))); rintro e w47 ⟨rfl, hb⟩; refine ⟨_, rfl, ?_⟩; have n0_ := Aside0.mk (Kd.R_below (by (with_reducible repeat (first | apply Kd.R_alloc | apply Kd.R_drewN | apply Kd.R_drew)); exact (Kd.R_mono (Kd.R_far (p := ⟨gb356, 4, none⟩) (Kd.R_far (p := ⟨gb356, 3, none⟩) (Kd.R_far (p := ⟨gb356, 2, none⟩) (Kd.R_far (p := ⟨gb356, 1, none⟩) (Kd.R_far (p := ⟨gb356, 0, none⟩) (Kd.R_types HO349.out BK356.out (by decide)) (fun _ hk => hk.2) (.string t350)) (fun _ hk => hk.2) (.int .u64 t351)) (fun _ hk => hk.2) (.int .i64 t352)) (fun _ hk => hk.2) (.string t353)) (fun _ hk => hk.2) (.string t354)) (fun _ h_ => h_.1))) hb); have n1_ := Aside0.mk (blk_below (g := gb356) (o := .cells #[.string t350, .int .u64 t351, .int .i64 t352, .string t353, .string t354] 28 (0, 0)) (by (with_reducible repeat (first | refine blk_drewN ?_ _ | refine blk_drew ?_ | refine blk_alloc ?_ _)); refine blk_put (cs := #[.string t350, .int .u64 t351, .int .i64 t352, .string t353, .string (⟨#[]⟩ : ByteArray)]) ?_ 4 _ rfl; (with_reducible repeat (first | refine blk_drewN ?_ _ | refine blk_drew ?_ | refine blk_alloc ?_ _)); refine blk_put (cs := #[.string t350, .int .u64 t351, .int .i64 t352, .string (⟨#[]⟩ : ByteArray), .string (⟨#[]⟩ : ByteArray)]) ?_ 3 _ rfl; (with_reducible repeat (first | refine blk_drewN ?_ _ | refine blk_drew ?_ | refine blk_alloc ?_ _)); refine blk_put (cs := #[.string t350, .int .u64 t351, .int .i64 0, .string (⟨#[]⟩ : ByteArray), .string (⟨#[]⟩ : ByteArray)]) ?_ 2 _ rfl; (with_reducible repeat (first | refine blk_drewN ?_ _ | refine blk_drew ?_ | refine blk_alloc ?_ _)); refine blk_put (cs := #[.string t350, .int .u64 0, .int .i64 0, .string (⟨#[]⟩ : ByteArray), .string (⟨#[]⟩ : ByteArray)]) ?_ 1 _ rfl; (with_reducible repeat (first | refine blk_drewN ?_ _ | refine blk_drew ?_ | refine blk_alloc ?_ _)); refine blk_put (cs := #[.string (⟨#[]⟩ : ByteArray), .int .u64 0, .int .i64 0, .string (⟨#[]⟩ : ByteArray), .string (⟨#[]⟩ : ByteArray)]) ?_ 0 _ rfl; (with_reducible repeat (first | refine blk_drewN ?_ _ | refine blk_drew ?_ | refine blk_alloc ?_ _)); exact BK356.out) hb); have n2_ := Aside0.mk (below_step (by repeat (first | (with_reducible first | exact HB.out | apply below_alloc | apply pw_below_drewN | apply below_drew1 | refine below_set ?_ GE356.out) | exact HB.out)) hb); clear HO349; clear BK356; clear HB; have HO349 := n0_; have BK356 := n1_; have HB := n2_; clear n0_ n1_ n2_; (try clear hb); (try clear hb2); (try clear hk); (try clear hi)) | ((with_reducible refine gate_dst (N := 55) rfl ?_); refine spoils.conv (by rfl) rfl (by rfl) ?_; intro gx capx csx wc hgx_ hbx_ hsx_ hcx_ hb; have n0_ := Aside0.mk (Kd.R_below (by (with_reducible repeat (first | apply Kd.R_alloc | apply Kd.R_drewN | apply Kd.R_drew)); exact HO349.out) hb); have n1_ := Aside0.mk (blk_below (g := gb356) (o := .cells #[.string t350, .int .u64 t351, .int .i64 t352, .string t353, .string t354] 28 (0, 0)) (by (with_reducible repeat (first | refine blk_drewN ?_ _ | refine blk_drew ?_ | refine blk_alloc ?_ _)); exact BK356.out) hb); have n2_ := Aside0.mk (below_step (by repeat (first | (with_reducible first | exact HB.out | apply below_alloc | apply pw_below_drewN | apply below_drew1 | refine below_set ?_ GE356.out) | exact HB.out)) hb); have n3_ := Aside0.mk hbx_; have n4_ := Aside0.mk (show w.heap.size ≤ gx by rw [hgx_]; exact (below_size (by repeat (first | (with_reducible first | exact HB.out | apply below_alloc | apply pw_below_drewN | apply below_drew1 | refine below_set ?_ GE356.out) | exact HB.out)))); have n5_ := Aside0.mk (show gb356 ≠ gx by rw [hgx_]; exact Nat.ne_of_lt (blk_lt (g := gb356) (o := .cells #[.string t350, .int .u64 t351, .int .i64 t352, .string t353, .string t354] 28 (0, 0)) (by (with_reducible repeat (first | refine blk_drewN ?_ _ | refine blk_drew ?_ | refine blk_alloc ?_ _)); exact BK356.out))); have n6_ := Aside0.mk hsx_; have n7_ := Aside0.mk hcx_; clear HO349; clear BK356; clear HB; have HO349 := n0_; have BK356 := n1_; have HB := n2_; have BKX := n3_; have GEX := n4_; have NEX := n5_; have HSX := n6_; have HCX := n7_; clear n0_ n1_ n2_ n3_ n4_ n5_ n6_ n7_; clear hb hgx_ hbx_ hsx_ hcx_) | ((with_reducible refine gate_callee (f := 13) rfl ?_); refine goesL_ (some 59) rfl rfl Tryd.func13 (by kernel_rfl) rfl #[.int .i64 a3, .int .i64 (t357.size : Int)] rfl (by (try simp only [List.map_toArray, List.map_cons, List.map_nil]); first | done | rfl | (simp only [List.length_drop, List.length_take]; rfl)) ?_; (with_reducible refine (letterlocklaw11_pick.calls a3 (t357.size : Int) t359 _ A16.out).mono ?_); rintro e w' ⟨rfl, ⟨nd, rfl⟩⟩; refine ⟨_, rfl, ?_⟩; (try (rw [drewN_self wc]; generalize hq_ : World.drewN wc _ = wc; have n0_ : Aside0 (Kd.R Kd.string 9 wc w.heap.size (fun _ => True) (.slice Ao43 t347.length co43) t347) := ⟨by rw [← hq_]; exact (by (with_reducible repeat (first | apply Kd.R_alloc | apply Kd.R_drewN | apply Kd.R_drew)); exact HO349.out)⟩; have n1_ : Aside0 (wc.heap[gb356]? = some (.cells #[.string t350, .int .u64 t351, .int .i64 t352, .string t353, .string t354] 28 (0, 0))) := ⟨by rw [← hq_]; exact (by (with_reducible repeat (first | refine blk_drewN ?_ _ | refine blk_drew ?_ | refine blk_alloc ?_ _)); exact BK356.out)⟩; have n2_ : Aside0 (Below w.heap.size w wc) := ⟨by rw [← hq_]; exact (by repeat (first | (with_reducible first | exact HB.out | apply below_alloc | apply pw_below_drewN | apply below_drew1 | refine below_set ?_ GE356.out) | exact HB.out))⟩; have n3_ : Aside0 (wc.heap[gx]? = some (.cells csx 5 (csx.size, csx.size + 1))) := ⟨by rw [← hq_]; exact (by (with_reducible repeat (first | refine blk_drewN ?_ _ | refine blk_drew ?_ | refine blk_alloc ?_ _)); exact BKX.out)⟩; clear HO349 BK356 HB BKX hq_; have BKX := n3_; have HO349 := n0_; have BK356 := n1_; have HB := n2_; clear n0_ n1_ n2_ n3_))))
       have n0_ := Aside0.mk (Kd.R_drew HO349.out)
       have n1_ := Aside0.mk (blk_drew BK356.out)
       have n2_ := Aside0.mk (blk_drew BKX.out)
       have n3_ := Aside0.mk (below_drew1 HB.out)
       clear HO349 BK356 BKX HB
       have HO349 := n0_
       have BK356 := n1_
       have BKX := n2_
       have HB := n3_
       clear n0_ n1_ n2_ n3_
       have HSC := Aside0.mk (spoils.cell (n := t359.toNat) (by omega) HCX.out BKX.out)
       have kz0 : (0 ≤ t359) = True := eq_true sp0
       have kz1 : (t359 < (t357.size : Int)) = True := eq_true sp1
       refine start_ (n := 13) (S := fun w' => Aside0 (Below wc.drew.heap.size wc.drew w')) (ds := [12]) #[false, false, false, false, false, false, false, false, false, false, false, false, false] (by kernel_rfl) rfl rfl (Aside0.mk (Below.refl _ _)) (fun hHeld => ?_); refine with_tabW letterlocklaw11_FreshSpoils.tab9 letterlocklaw11_FreshSpoils.bits9 (fun HT_ HW_ => ?_)
       generalize wc.drew = wd at HO349 BK356 BKX HB HSC hHeld ⊢
       refine pure_ (i := 0) (N := some 60) (v := ?_) (a' := ?_) #[true, false, false, false, false, false, false, false, false, false, false, false, false] rfl rfl (any_of HT_.out (by kernel_rfl)) (fun _ _ _ h => h) (Or.inl ⟨by rfl, ?_⟩) ?_ ?_
       rotate_left
       ·intro w'
        go_simp
        with_reducible rfl
       rotate_left
       ·simp only [Act.put, List.setIfInBounds_toArray, List.set_cons_zero, List.set_cons_succ, i64_w, i32_w]
        rfl
       refine pure_ (i := 1) (N := some 61) (v := ?_) (a' := ?_) #[true, true, false, false, false, false, false, false, false, false, false, false, false] rfl rfl (any_of HT_.out (by kernel_rfl)) (fun _ _ _ h => h) (Or.inl ⟨by rfl, ?_⟩) ?_ ?_
       rotate_left
       ·intro w'
        go_simp
        with_reducible rfl
       rotate_left
       ·simp only [Act.put, List.setIfInBounds_toArray, List.set_cons_zero, List.set_cons_succ, i64_w, i32_w]
        rfl
       refine pure_ (i := 2) (N := some 62) (v := ?_) (a' := ?_) #[true, true, true, false, false, false, false, false, false, false, false, false, false] rfl rfl (any_of HT_.out (by kernel_rfl)) (fun _ _ _ h => h) (Or.inl ⟨by rfl, ?_⟩) ?_ ?_
       rotate_left
       ·intro w'
        go_simp
        with_reducible rfl
       rotate_left
       ·simp only [Act.put, List.setIfInBounds_toArray, List.set_cons_zero, List.set_cons_succ, i64_w, i32_w]
        rfl
       refine pure_ (i := 3) (N := some 63) (v := ?_) (a' := ?_) #[true, true, true, true, false, false, false, false, false, false, false, false, false] rfl rfl (any_of HT_.out (by kernel_rfl)) (fun _ _ _ h => h) (Or.inl ⟨by rfl, ?_⟩) ?_ ?_
       rotate_left
       ·intro w'
        go_simp
        with_reducible rfl
       rotate_left
       ·simp only [Act.put, List.setIfInBounds_toArray, List.set_cons_zero, List.set_cons_succ, i64_w, i32_w]
        rfl
       refine pure_ (i := 4) (N := some 64) (v := ?_) (a' := ?_) #[true, true, true, true, true, false, false, false, false, false, false, false, false] rfl rfl (any_of HT_.out (by kernel_rfl)) (fun _ _ _ h => h) (Or.inl ⟨by rfl, ?_⟩) ?_ ?_
       rotate_left
       ·intro w'
        go_simp
        with_reducible rfl
       rotate_left
       ·simp only [Act.put, List.setIfInBounds_toArray, List.set_cons_zero, List.set_cons_succ, i64_w, i32_w]
        rfl
       refine take_ (i := 5) (N := some 65) (v := (.int .u8 ((t357.data.toList.getD t359.toNat 0).toNat : Int))) (a' := ?_) #[true, true, true, true, true, true, false, false, false, false, false, false, false] rfl rfl (take_ofW HT_.out HW_.out (by kernel_rfl)) (fun _ _ _ h => h) (Or.inl ⟨by rfl, ?_⟩) hHeld ?_ ?_
       ·intro w' s0
        exact spoils.load _ _ _ rfl _ gx t359.toNat _ rfl (cell_keep s0.out HSC.out)
       rotate_left
       ·simp only [Act.put, List.setIfInBounds_toArray, List.set_cons_zero, List.set_cons_succ, i64_w, i32_w]
        rfl
       refine pure_ (i := 6) (N := some 66) (v := ?_) (a' := ?_) #[true, true, true, true, true, true, true, false, false, false, false, false, false] rfl rfl (any_of HT_.out (by kernel_rfl)) (fun _ _ _ h => h) (Or.inl ⟨by rfl, ?_⟩) ?_ ?_
       rotate_left
       ·intro w'
        go_simp
        with_reducible rfl
       rotate_left
       ·simp only [Act.put, List.setIfInBounds_toArray, List.set_cons_zero, List.set_cons_succ, i64_w, i32_w]
        rfl
       refine one_ (i := 7) (N := some 67) #[true, true, true, true, true, true, true, true, false, false, false, false, false] rfl rfl (one_of HT_.out (by kernel_rfl)) (by decide) (fun K hK => ?_)
       refine goes_ Tryd.func13 (by kernel_rfl) rfl #[.int .i64 a4, .int .i64 8] (by rfl) rfl rfl (by (try simp only [List.map_toArray, List.map_cons, List.map_nil]); first | done | rfl | (simp only [List.length_drop, List.length_take]; rfl)) ?_
       refine (letterlocklaw11_pick.calls a4 8 t360 _ A17.out).mono ?_
       rintro e w' ⟨rfl, ⟨nd, rfl⟩⟩
       refine ⟨_, rfl, ?_⟩
       refine hK.out _ _ (Aside0.mk (pw_below_drewN hHeld.out nd)) (fun hHeld => ?_)
       clear hK K
       have n0_ := Aside0.mk (Kd.R_drewN HO349.out nd)
       have n1_ := Aside0.mk (blk_drewN BK356.out nd)
       have n2_ := Aside0.mk (blk_drewN BKX.out nd)
       have n3_ := Aside0.mk (pw_below_drewN HB.out nd)
       clear HO349 BK356 BKX HB HSC
       generalize World.drewN wd nd = we at n0_ n1_ n2_ n3_ hHeld ⊢
       have HO349 := n0_
       have BK356 := n1_
       have BKX := n2_
       have HB := n3_
       clear n0_ n1_ n2_ n3_
       refine norm_ (a' := ?_) ?_ ?_
       rotate_left
       ·show Act.put _ (some 67) _ = _
        simp only [Act.put, List.setIfInBounds_toArray, List.set_cons_zero, List.set_cons_succ, i64_w, i32_w]
        rfl
       refine pure_ (i := 8) (N := some 68) (v := (.int .u64 t360)) (a' := ?_) #[true, true, true, true, true, true, true, true, true, false, false, false, false] rfl rfl (any_of HT_.out (by kernel_rfl)) (fun _ _ _ h => h) (Or.inl ⟨by rfl, ?_⟩) ?_ ?_
       ·intro w'
        exact spoils.uint _ _ _ rfl t360 rfl sp2 sp3 w'
       rotate_left
       ·simp only [Act.put, List.setIfInBounds_toArray, List.set_cons_zero, List.set_cons_succ, i64_w, i32_w]
        rfl
       refine pure_ (i := 9) (N := some 69) (v := (.int .u8 ((2 ^ t360.toNat : Nat) : Int))) (a' := ?_) #[true, true, true, true, true, true, true, true, true, true, false, false, false] rfl rfl (any_of HT_.out (by kernel_rfl)) (fun _ _ _ h => h) (Or.inl ⟨by rfl, ?_⟩) ?_ ?_
       ·intro w'
        exact spoils.mask _ _ _ rfl t360 rfl rfl sp2 sp3 w'
       rotate_left
       ·simp only [Act.put, List.setIfInBounds_toArray, List.set_cons_zero, List.set_cons_succ, i64_w, i32_w]
        rfl
       refine pure_ (i := 10) (N := some 70) (v := (.int .u8 (((t357.data.toList.getD t359.toNat 0).toNat ^^^ 2 ^ t360.toNat : Nat) : Int))) (a' := ?_) #[true, true, true, true, true, true, true, true, true, true, true, false, false] rfl rfl (any_of HT_.out (by kernel_rfl)) (fun _ _ _ h => h) (Or.inl ⟨by rfl, ?_⟩) ?_ ?_
       ·intro w'
        exact spoils.xor _ _ _ _ rfl _ _ (UInt8.toNat_lt _) (Nat.pow_lt_pow_right (a := 2) (n := 8) (by decide) (by omega)) rfl rfl w'
       rotate_left
       ·simp only [Act.put, List.setIfInBounds_toArray, List.set_cons_zero, List.set_cons_succ, i64_w, i32_w]
        rfl
       refine pure_ (i := 11) (N := some 71) (v := ?_) (a' := ?_) #[true, true, true, true, true, true, true, true, true, true, true, true, false] rfl rfl (any_of HT_.out (by kernel_rfl)) (fun _ _ _ h => h) (Or.inl ⟨by rfl, ?_⟩) ?_ ?_
       rotate_left
       ·intro w'
        go_simp
        with_reducible rfl
       rotate_left
       ·simp only [Act.put, List.setIfInBounds_toArray, List.set_cons_zero, List.set_cons_succ, i64_w, i32_w]
        rfl
       refine last_ (i := 12) (N := none) #[true, true, true, true, true, true, true, true, true, true, true, true, true] rfl rfl (one_of HT_.out (by kernel_rfl)) (by decide) (fun K hK => ?_)
       refine skip_ (w1 := World.setCell we ⟨gx, t359.toNat, none⟩ (.int .u8 (((t357.data.toList.getD t359.toNat 0).toNat ^^^ 2 ^ t360.toNat : Nat) : Int))) (by rfl) rfl ?_ ?_
       ·exact spoils.store _ _ _ _ rfl _ gx t359.toNat _ _ rfl rfl (spoils.cell (by omega) HCX.out BKX.out) (spoils.frozen (by have := HSX.out; omega) BKX.out)
       refine hK.out _ _ ?_
       clear hK K
       refine done_ (done_of HT_.out (by kernel_rfl)) ?_
       have n0_ := Aside0.mk (Kd.R_mono (Kd.R_far (p := ⟨gx, t359.toNat, none⟩) (spoils.R_types HO349.out BKX.out (by decide)) (fun _ hk => hk.2) (.int .u8 (((t357.data.toList.getD t359.toNat 0).toNat ^^^ 2 ^ t360.toNat : Nat) : Int))) (fun _ hk => hk.1))
       have n1_ := Aside0.mk (blk_far (p := ⟨gx, t359.toNat, none⟩) BK356.out NEX.out (.int .u8 (((t357.data.toList.getD t359.toNat 0).toNat ^^^ 2 ^ t360.toNat : Nat) : Int)))
       have n2_ := Aside0.mk (spoils.set BKX.out t359.toNat (.int .u8 (((t357.data.toList.getD t359.toNat 0).toNat ^^^ 2 ^ t360.toNat : Nat) : Int)))
       have n3_ := Aside0.mk (below_set (j := t359.toNat) (v := (.int .u8 (((t357.data.toList.getD t359.toNat 0).toNat ^^^ 2 ^ t360.toNat : Nat) : Int))) HB.out GEX.out)
       clear HO349 BK356 BKX HB hHeld
       generalize World.setCell we ⟨gx, t359.toNat, none⟩ (.int .u8 (((t357.data.toList.getD t359.toNat 0).toNat ^^^ 2 ^ t360.toNat : Nat) : Int)) = wf at n0_ n1_ n2_ n3_ ⊢
       have HO349 := n0_
       have BK356 := n1_
       have BKX := n2_
       have HB := n3_
       clear n0_ n1_ n2_ n3_ kz0 kz1
       go_wp2_with (first | ((with_reducible refine gate_dst (N := 74) rfl ?_); refine spoils.conv_back (g := gx) (cs := csx) (by rfl) rfl (by rfl) sp0 sp1 sp2 sp3 HCX.out (by (with_reducible repeat (first | refine blk_drewN ?_ _ | refine blk_drew ?_ | refine blk_alloc ?_ _)); exact BKX.out) ?_) | ((with_reducible refine gate_callee (f := 20) rfl ?_); refine goesL_ (some 75) rfl rfl Tryd.func20 (by kernel_rfl) rfl #[.string (spoilB t357 t359 t360)] rfl (by (try simp only [List.map_toArray, List.map_cons, List.map_nil]); first | done | rfl | (simp only [List.length_drop, List.length_take]; rfl)) ?_; (with_reducible refine (fresh_Take.calls k (spoilB t357 t359 t360) t361 t362 t363 t364 t365 t366 _ A18.out ?sidev).mono ?_); (case sidev => exact Laid8.below HV.out (by repeat (first | (with_reducible first | exact HB.out | apply below_alloc | apply pw_below_drewN | apply below_drew1 | refine below_set ?_ GE356.out) | exact HB.out))); rintro e w48 ⟨rfl, hb⟩; refine ⟨_, rfl, ?_⟩; have n0_ := Aside0.mk (Kd.R_below (by (with_reducible repeat (first | apply Kd.R_alloc | apply Kd.R_drewN | apply Kd.R_drew)); exact HO349.out) hb); have n1_ := Aside0.mk (blk_below (g := gb356) (o := .cells #[.string t350, .int .u64 t351, .int .i64 t352, .string t353, .string t354] 28 (0, 0)) (by (with_reducible repeat (first | refine blk_drewN ?_ _ | refine blk_drew ?_ | refine blk_alloc ?_ _)); exact BK356.out) hb); have n2_ := Aside0.mk (below_step (by repeat (first | (with_reducible first | exact HB.out | apply below_alloc | apply pw_below_drewN | apply below_drew1 | refine below_set ?_ GE356.out) | exact HB.out)) hb); clear HO349; clear BK356; clear HB; have HO349 := n0_; have BK356 := n1_; have HB := n2_; clear n0_ n1_ n2_; (try clear hb); (try clear hb2); (try clear hk); (try clear hi)) | ((with_reducible refine gate_dst (N := 19) rfl ?_); (try (refine gate_guard (by rfl) ?_; dsimp only)); refine box_event ?hg (N := 19) ?hd (cs := #[.string (⟨#[]⟩ : ByteArray), .int .u64 0, .int .i64 0, .string (⟨#[]⟩ : ByteArray), .string (⟨#[]⟩ : ByteArray)]) (t := 28) ?hr ?_; (case hd => rfl); (case hg => rfl); (case hr => first | (go_simp; done) | (go_simp; rfl)); intro gb367 hg w49 hbox hb; have n0_ := Aside0.mk (Kd.R_below (by (with_reducible repeat (first | apply Kd.R_alloc | apply Kd.R_drewN | apply Kd.R_drew)); exact HO349.out) hb); have n1_ := Aside0.mk (blk_below (g := gb356) (o := .cells #[.string t350, .int .u64 t351, .int .i64 t352, .string t353, .string t354] 28 (0, 0)) (by (with_reducible repeat (first | refine blk_drewN ?_ _ | refine blk_drew ?_ | refine blk_alloc ?_ _)); exact BK356.out) hb); have n2_ := Aside0.mk (below_step (by repeat (first | (with_reducible first | exact HB.out | apply below_alloc | apply pw_below_drewN | apply below_drew1 | refine below_set ?_ GE356.out) | exact HB.out)) hb); have n3_ := Aside0.mk (hbox); have n4_ := Aside0.mk ((by rw [hg]; exact (below_size (by repeat (first | (with_reducible first | exact HB.out | apply below_alloc | apply pw_below_drewN | apply below_drew1 | refine below_set ?_ GE356.out) | exact HB.out))) : w.heap.size ≤ gb367)); have n5_ := Aside0.mk ((by rw [hg]; exact (below_size (by repeat (first | (with_reducible first | exact HB.out | apply below_alloc | apply pw_below_drewN | apply below_drew1 | refine below_set ?_ GE356.out) | exact HB.out))) : w.heap.size ≤ gb367)); have n6_ := Aside0.mk ((by rw [hg]; exact Nat.ne_of_lt (blk_lt (g := gb356) (o := .cells #[.string t350, .int .u64 t351, .int .i64 t352, .string t353, .string t354] 28 (0, 0)) (by (with_reducible repeat (first | refine blk_drewN ?_ _ | refine blk_drew ?_ | refine blk_alloc ?_ _)); exact BK356.out)) : gb356 ≠ gb367)); have n7_ := Aside0.mk ((by rw [hg]; exact Nat.ne_of_gt (blk_lt (g := gb356) (o := .cells #[.string t350, .int .u64 t351, .int .i64 t352, .string t353, .string t354] 28 (0, 0)) (by (with_reducible repeat (first | refine blk_drewN ?_ _ | refine blk_drew ?_ | refine blk_alloc ?_ _)); exact BK356.out)) : gb367 ≠ gb356)); clear HO349; clear BK356; clear HB; have HO349 := n0_; have BK356 := n1_; have HB := n2_; have BK367 := n3_; have GW367 := n4_; have GE367 := n5_; have NB356_367 := n6_; have NB367_356 := n7_; clear n0_ n1_ n2_ n3_ n4_ n5_ n6_ n7_; clear hb hbox hg; have hnb50 := NB367_356.out; have hnc50 := NB356_367.out; have hcz51_0 : w49.cell? ⟨gb367, 0, none⟩ = some (.string (⟨#[]⟩ : ByteArray)) := (blk_cell BK367.out 0).trans rfl; have hcz51_1 : w49.cell? ⟨gb367, 1, none⟩ = some (.int .u64 0) := (blk_cell BK367.out 1).trans rfl; have hcz51_2 : w49.cell? ⟨gb367, 2, none⟩ = some (.int .i64 0) := (blk_cell BK367.out 2).trans rfl; have hcz51_3 : w49.cell? ⟨gb367, 3, none⟩ = some (.string (⟨#[]⟩ : ByteArray)) := (blk_cell BK367.out 3).trans rfl; have hcz51_4 : w49.cell? ⟨gb367, 4, none⟩ = some (.string (⟨#[]⟩ : ByteArray)) := (blk_cell BK367.out 4).trans rfl; have hfz51_0 := blk_frozen BK367.out 0; have hfz51_1 := blk_frozen BK367.out 1; have hfz51_2 := blk_frozen BK367.out 2; have hfz51_3 := blk_frozen BK367.out 3; have hfz51_4 := blk_frozen BK367.out 4))
       have n0_ : Aside0 (Kd.R Kd.string 9 (((((w49.setCell ⟨gb367, 0, none⟩ (.string t361)).setCell ⟨gb367, 1, none⟩ (.int .u64 t362)).setCell ⟨gb367, 2, none⟩ (.int .i64 t363)).setCell ⟨gb367, 3, none⟩ (.string t364)).setCell ⟨gb367, 4, none⟩ (.string t365)) w.heap.size (fun _ => True) (.slice Ao43 t347.length co43) t347) := ⟨by (with_reducible repeat (first | apply Kd.R_alloc | apply Kd.R_drewN | apply Kd.R_drew)); exact Kd.R_mono (Kd.R_far (p := ⟨gb367, 4, none⟩) (Kd.R_far (p := ⟨gb367, 3, none⟩) (Kd.R_far (p := ⟨gb367, 2, none⟩) (Kd.R_far (p := ⟨gb367, 1, none⟩) (Kd.R_far (p := ⟨gb367, 0, none⟩) (Kd.R_types HO349.out BK367.out (by decide)) (fun _ hk => hk.2) (.string t361)) (fun _ hk => hk.2) (.int .u64 t362)) (fun _ hk => hk.2) (.int .i64 t363)) (fun _ hk => hk.2) (.string t364)) (fun _ hk => hk.2) (.string t365)) (fun _ hk => trivial)⟩
       have n1_ : Aside0 ((((((w49.setCell ⟨gb367, 0, none⟩ (.string t361)).setCell ⟨gb367, 1, none⟩ (.int .u64 t362)).setCell ⟨gb367, 2, none⟩ (.int .i64 t363)).setCell ⟨gb367, 3, none⟩ (.string t364)).setCell ⟨gb367, 4, none⟩ (.string t365)).heap[gb356]? = some (.cells #[.string t350, .int .u64 t351, .int .i64 t352, .string t353, .string t354] 28 (0, 0))) := ⟨by (with_reducible repeat (first | refine blk_drewN ?_ _ | refine blk_drew ?_ | refine blk_alloc ?_ _)); refine blk_far ?_ NB356_367.out _; (with_reducible repeat (first | refine blk_drewN ?_ _ | refine blk_drew ?_ | refine blk_alloc ?_ _)); refine blk_far ?_ NB356_367.out _; (with_reducible repeat (first | refine blk_drewN ?_ _ | refine blk_drew ?_ | refine blk_alloc ?_ _)); refine blk_far ?_ NB356_367.out _; (with_reducible repeat (first | refine blk_drewN ?_ _ | refine blk_drew ?_ | refine blk_alloc ?_ _)); refine blk_far ?_ NB356_367.out _; (with_reducible repeat (first | refine blk_drewN ?_ _ | refine blk_drew ?_ | refine blk_alloc ?_ _)); refine blk_far ?_ NB356_367.out _; (with_reducible repeat (first | refine blk_drewN ?_ _ | refine blk_drew ?_ | refine blk_alloc ?_ _)); exact BK356.out⟩
       have n2_ : Aside0 ((((((w49.setCell ⟨gb367, 0, none⟩ (.string t361)).setCell ⟨gb367, 1, none⟩ (.int .u64 t362)).setCell ⟨gb367, 2, none⟩ (.int .i64 t363)).setCell ⟨gb367, 3, none⟩ (.string t364)).setCell ⟨gb367, 4, none⟩ (.string t365)).heap[gb367]? = some (.cells #[.string t361, .int .u64 t362, .int .i64 t363, .string t364, .string t365] 28 (0, 0))) := ⟨by (with_reducible repeat (first | refine blk_drewN ?_ _ | refine blk_drew ?_ | refine blk_alloc ?_ _)); refine blk_put (cs := #[.string t361, .int .u64 t362, .int .i64 t363, .string t364, .string (⟨#[]⟩ : ByteArray)]) ?_ 4 _ rfl; (with_reducible repeat (first | refine blk_drewN ?_ _ | refine blk_drew ?_ | refine blk_alloc ?_ _)); refine blk_put (cs := #[.string t361, .int .u64 t362, .int .i64 t363, .string (⟨#[]⟩ : ByteArray), .string (⟨#[]⟩ : ByteArray)]) ?_ 3 _ rfl; (with_reducible repeat (first | refine blk_drewN ?_ _ | refine blk_drew ?_ | refine blk_alloc ?_ _)); refine blk_put (cs := #[.string t361, .int .u64 t362, .int .i64 0, .string (⟨#[]⟩ : ByteArray), .string (⟨#[]⟩ : ByteArray)]) ?_ 2 _ rfl; (with_reducible repeat (first | refine blk_drewN ?_ _ | refine blk_drew ?_ | refine blk_alloc ?_ _)); refine blk_put (cs := #[.string t361, .int .u64 0, .int .i64 0, .string (⟨#[]⟩ : ByteArray), .string (⟨#[]⟩ : ByteArray)]) ?_ 1 _ rfl; (with_reducible repeat (first | refine blk_drewN ?_ _ | refine blk_drew ?_ | refine blk_alloc ?_ _)); refine blk_put (cs := #[.string (⟨#[]⟩ : ByteArray), .int .u64 0, .int .i64 0, .string (⟨#[]⟩ : ByteArray), .string (⟨#[]⟩ : ByteArray)]) ?_ 0 _ rfl; (with_reducible repeat (first | refine blk_drewN ?_ _ | refine blk_drew ?_ | refine blk_alloc ?_ _)); exact BK367.out⟩
       have n3_ : Aside0 (Below w.heap.size w (((((w49.setCell ⟨gb367, 0, none⟩ (.string t361)).setCell ⟨gb367, 1, none⟩ (.int .u64 t362)).setCell ⟨gb367, 2, none⟩ (.int .i64 t363)).setCell ⟨gb367, 3, none⟩ (.string t364)).setCell ⟨gb367, 4, none⟩ (.string t365))) := ⟨by repeat (first | (with_reducible first | exact HB.out | apply below_alloc | apply pw_below_drewN | apply below_drew1 | refine below_set ?_ GE356.out | refine below_set ?_ GE367.out) | exact HB.out)⟩
       (try clear HO349)
       (try clear BK356)
       (try clear BK367)
       (try clear HB)
       generalize (((((w49.setCell ⟨gb367, 0, none⟩ (.string t361)).setCell ⟨gb367, 1, none⟩ (.int .u64 t362)).setCell ⟨gb367, 2, none⟩ (.int .i64 t363)).setCell ⟨gb367, 3, none⟩ (.string t364)).setCell ⟨gb367, 4, none⟩ (.string t365)) = w52 at n0_ n1_ n2_ n3_ ⊢
       have HO349 := n0_
       have BK356 := n1_
       have BK367 := n2_
       have HB := n3_
       clear n0_ n1_ n2_ n3_
       have n0_ := Aside0.mk (Kd.R_drew HO349.out)
       have n1_ := Aside0.mk (blk_drew BK356.out)
       have n2_ := Aside0.mk (blk_drew BK367.out)
       have n3_ := Aside0.mk (below_drew1 HB.out)
       clear HO349
       clear BK356
       clear BK367
       clear HB
       have HO349 := n0_
       have BK356 := n1_
       have BK367 := n2_
       have HB := n3_
       clear n0_ n1_ n2_ n3_
       refine start_ (n := 22) (S := fun w' => w'.cell? ⟨gb367, 0, none⟩ = some (.string t361) ∧ w'.cell? ⟨gb367, 1, none⟩ = some (.int .u64 t362) ∧ w'.cell? ⟨gb367, 2, none⟩ = some (.int .i64 t363) ∧ w'.cell? ⟨gb367, 3, none⟩ = some (.string t364) ∧ w'.cell? ⟨gb367, 4, none⟩ = some (.string t365)) (ds := []) #[false, false, false, false, false, false, false, false, false, false, false, false, false, false, false, false, false, false, false, false, false, false] (by kernel_rfl) rfl rfl ⟨(blk_cell BK367.out 0).trans rfl, (blk_cell BK367.out 1).trans rfl, (blk_cell BK367.out 2).trans rfl, (blk_cell BK367.out 3).trans rfl, (blk_cell BK367.out 4).trans rfl⟩ (fun hHeld => ?_); refine with_tabW letterlocklaw11_FreshSpoils.tab11 letterlocklaw11_FreshSpoils.bits11 (fun HT_ HW_ => ?_)
       generalize w52.drew = w53 at HO349 BK356 BK367 HB hHeld ⊢
       refine pure_ (i := 0) (N := some 78) (v := ?_) (a' := ?_) #[true, false, false, false, false, false, false, false, false, false, false, false, false, false, false, false, false, false, false, false, false, false] rfl rfl (any_of HT_.out (by kernel_rfl)) (fun _ _ _ h => h) (Or.inl ⟨by rfl, ?_⟩) ?_ ?_
       rotate_left
       ·intro w'
        go_simp
        with_reducible rfl
       rotate_left
       ·simp only [Act.put, List.setIfInBounds_toArray, List.set_cons_zero, List.set_cons_succ, i64_w, i32_w]
        rfl
       refine pure_ (i := 1) (N := some 79) (v := ?_) (a' := ?_) #[true, true, false, false, false, false, false, false, false, false, false, false, false, false, false, false, false, false, false, false, false, false] rfl rfl (any_of HT_.out (by kernel_rfl)) (fun _ _ _ h => h) (Or.inl ⟨by rfl, ?_⟩) ?_ ?_
       rotate_left
       ·intro w'
        go_simp
        with_reducible rfl
       rotate_left
       ·simp only [Act.put, List.setIfInBounds_toArray, List.set_cons_zero, List.set_cons_succ, i64_w, i32_w]
        rfl
       refine pure_ (i := 2) (N := some 80) (v := ?_) (a' := ?_) #[true, true, true, false, false, false, false, false, false, false, false, false, false, false, false, false, false, false, false, false, false, false] rfl rfl (any_of HT_.out (by kernel_rfl)) (fun _ _ _ h => h) (Or.inl ⟨by rfl, ?_⟩) ?_ ?_
       rotate_left
       ·intro w'
        go_simp
        with_reducible rfl
       rotate_left
       ·simp only [Act.put, List.setIfInBounds_toArray, List.set_cons_zero, List.set_cons_succ, i64_w, i32_w]
        rfl
       refine pure_ (i := 3) (N := some 81) (v := undef) (a' := ?_) #[true, true, true, true, false, false, false, false, false, false, false, false, false, false, false, false, false, false, false, false, false, false] rfl rfl (any_of HT_.out (by kernel_rfl)) (fun _ _ _ h => h) (Or.inr ⟨by rfl, rfl⟩) ?_ ?_
       rotate_left
       ·simp only [Act.put, List.setIfInBounds_toArray, List.set_cons_zero, List.set_cons_succ, i64_w, i32_w]
        rfl
       refine pure_ (i := 4) (N := some 82) (v := undef) (a' := ?_) #[true, true, true, true, true, false, false, false, false, false, false, false, false, false, false, false, false, false, false, false, false, false] rfl rfl (any_of HT_.out (by kernel_rfl)) (fun _ _ _ h => h) (Or.inr ⟨by rfl, rfl⟩) ?_ ?_
       rotate_left
       ·simp only [Act.put, List.setIfInBounds_toArray, List.set_cons_zero, List.set_cons_succ, i64_w, i32_w]
        rfl
       refine pure_ (i := 5) (N := some 83) (v := undef) (a' := ?_) #[true, true, true, true, true, true, false, false, false, false, false, false, false, false, false, false, false, false, false, false, false, false] rfl rfl (any_of HT_.out (by kernel_rfl)) (fun _ _ _ h => h) (Or.inr ⟨by rfl, rfl⟩) ?_ ?_
       rotate_left
       ·simp only [Act.put, List.setIfInBounds_toArray, List.set_cons_zero, List.set_cons_succ, i64_w, i32_w]
        rfl
       refine pure_ (i := 6) (N := some 84) (v := ?_) (a' := ?_) #[true, true, true, true, true, true, true, false, false, false, false, false, false, false, false, false, false, false, false, false, false, false] rfl rfl (any_of HT_.out (by kernel_rfl)) (fun _ _ _ h => h) (Or.inl ⟨by rfl, ?_⟩) ?_ ?_
       rotate_left
       ·intro w'
        go_simp
        with_reducible rfl
       rotate_left
       ·simp only [Act.put, List.setIfInBounds_toArray, List.set_cons_zero, List.set_cons_succ, i64_w, i32_w]
        rfl
       refine pure_ (i := 7) (N := some 85) (v := ?_) (a' := ?_) #[true, true, true, true, true, true, true, true, false, false, false, false, false, false, false, false, false, false, false, false, false, false] rfl rfl (any_of HT_.out (by kernel_rfl)) (fun _ _ _ h => h) (Or.inl ⟨by rfl, ?_⟩) ?_ ?_
       rotate_left
       ·intro w'
        go_simp
        with_reducible rfl
       rotate_left
       ·simp only [Act.put, List.setIfInBounds_toArray, List.set_cons_zero, List.set_cons_succ, i64_w, i32_w]
        rfl
       refine pure_ (i := 8) (N := some 86) (v := ?_) (a' := ?_) #[true, true, true, true, true, true, true, true, true, false, false, false, false, false, false, false, false, false, false, false, false, false] rfl rfl (any_of HT_.out (by kernel_rfl)) (fun _ _ _ h => h) (Or.inl ⟨by rfl, ?_⟩) ?_ ?_
       rotate_left
       ·intro w'
        go_simp
        with_reducible rfl
       rotate_left
       ·simp only [Act.put, List.setIfInBounds_toArray, List.set_cons_zero, List.set_cons_succ, i64_w, i32_w]
        rfl
       refine pure_ (i := 9) (N := some 87) (v := ?_) (a' := ?_) #[true, true, true, true, true, true, true, true, true, true, false, false, false, false, false, false, false, false, false, false, false, false] rfl rfl (any_of HT_.out (by kernel_rfl)) (fun _ _ _ h => h) (Or.inl ⟨by rfl, ?_⟩) ?_ ?_
       rotate_left
       ·intro w'
        go_simp
        with_reducible rfl
       rotate_left
       ·simp only [Act.put, List.setIfInBounds_toArray, List.set_cons_zero, List.set_cons_succ, i64_w, i32_w]
        rfl
       refine pure_ (i := 10) (N := some 88) (v := ?_) (a' := ?_) #[true, true, true, true, true, true, true, true, true, true, true, false, false, false, false, false, false, false, false, false, false, false] rfl rfl (any_of HT_.out (by kernel_rfl)) (fun _ _ _ h => h) (Or.inl ⟨by rfl, ?_⟩) ?_ ?_
       rotate_left
       ·intro w'
        go_simp
        with_reducible rfl
       rotate_left
       ·simp only [Act.put, List.setIfInBounds_toArray, List.set_cons_zero, List.set_cons_succ, i64_w, i32_w]
        rfl
       refine pure_ (i := 12) (N := some 90) (v := ?_) (a' := ?_) #[true, true, true, true, true, true, true, true, true, true, true, false, true, false, false, false, false, false, false, false, false, false] rfl rfl (any_of HT_.out (by kernel_rfl)) (fun _ _ _ h => h) (Or.inl ⟨by rfl, ?_⟩) ?_ ?_
       rotate_left
       ·intro w'
        go_simp
        with_reducible rfl
       rotate_left
       ·simp only [Act.put, List.setIfInBounds_toArray, List.set_cons_zero, List.set_cons_succ, i64_w, i32_w]
        rfl
       refine pure_ (i := 14) (N := some 92) (v := ?_) (a' := ?_) #[true, true, true, true, true, true, true, true, true, true, true, false, true, false, true, false, false, false, false, false, false, false] rfl rfl (any_of HT_.out (by kernel_rfl)) (fun _ _ _ h => h) (Or.inl ⟨by rfl, ?_⟩) ?_ ?_
       rotate_left
       ·intro w'
        go_simp
        with_reducible rfl
       rotate_left
       ·simp only [Act.put, List.setIfInBounds_toArray, List.set_cons_zero, List.set_cons_succ, i64_w, i32_w]
        rfl
       refine pure_ (i := 15) (N := some 93) (v := ?_) (a' := ?_) #[true, true, true, true, true, true, true, true, true, true, true, false, true, false, true, true, false, false, false, false, false, false] rfl rfl (any_of HT_.out (by kernel_rfl)) (fun _ _ _ h => h) (Or.inl ⟨by rfl, ?_⟩) ?_ ?_
       rotate_left
       ·intro w'
        go_simp
        with_reducible rfl
       rotate_left
       ·simp only [Act.put, List.setIfInBounds_toArray, List.set_cons_zero, List.set_cons_succ, i64_w, i32_w]
        rfl
       refine take_ (i := 11) (N := some 89) (v := ?_) (a' := ?_) #[true, true, true, true, true, true, true, true, true, true, true, true, true, false, true, true, false, false, false, false, false, false] rfl rfl (take_ofW HT_.out HW_.out (by kernel_rfl)) (fun _ _ _ h => h) (Or.inl ⟨by rfl, ?_⟩) hHeld ?_ ?_
       rotate_left
       ·rintro w' ⟨s0, s1, s2, s3, s4⟩
        go_simp
        with_reducible rfl
       rotate_left
       ·simp only [Act.put, List.setIfInBounds_toArray, List.set_cons_zero, List.set_cons_succ, i64_w, i32_w]
        rfl
       refine take_ (i := 16) (N := some 94) (v := ?_) (a' := ?_) #[true, true, true, true, true, true, true, true, true, true, true, true, true, false, true, true, true, false, false, false, false, false] rfl rfl (take_ofW HT_.out HW_.out (by kernel_rfl)) (fun _ _ _ h => h) (Or.inl ⟨by rfl, ?_⟩) hHeld ?_ ?_
       rotate_left
       ·rintro w' ⟨s0, s1, s2, s3, s4⟩
        go_simp
        with_reducible rfl
       rotate_left
       ·simp only [Act.put, List.setIfInBounds_toArray, List.set_cons_zero, List.set_cons_succ, i64_w, i32_w]
        rfl
       refine one_ (i := 13) (N := some 91) #[true, true, true, true, true, true, true, true, true, true, true, true, true, true, true, true, true, false, false, false, false, false] rfl rfl (one_of HT_.out (by kernel_rfl)) (by decide) (fun K hK => ?_)
       refine goes_ Tryd.func18 (by kernel_rfl) rfl #[.string t345] (by rfl) rfl rfl (by (try simp only [List.map_toArray, List.map_cons, List.map_nil]); first | done | rfl | (simp only [List.length_drop, List.length_take]; rfl)) ?_
       with_reducible refine (letterlocklaw11_publicOf.calls k t345 t368 _ A37.out).mono ?_
       rintro e w54 ⟨rfl, hb⟩
       refine ⟨_, rfl, ?_⟩
       have n0_ := Aside0.mk (Kd.R_below (by (with_reducible repeat (first | apply Kd.R_alloc | apply Kd.R_drewN | apply Kd.R_drew)); exact HO349.out) hb)
       have n1_ := Aside0.mk (blk_below (g := gb356) (o := .cells #[.string t350, .int .u64 t351, .int .i64 t352, .string t353, .string t354] 28 (0, 0)) (by (with_reducible repeat (first | refine blk_drewN ?_ _ | refine blk_drew ?_ | refine blk_alloc ?_ _)); exact BK356.out) hb)
       have n2_ := Aside0.mk (blk_below (g := gb367) (o := .cells #[.string t361, .int .u64 t362, .int .i64 t363, .string t364, .string t365] 28 (0, 0)) (by (with_reducible repeat (first | refine blk_drewN ?_ _ | refine blk_drew ?_ | refine blk_alloc ?_ _)); exact BK367.out) hb)
       have n3_ := Aside0.mk (below_step (by repeat (first | (with_reducible first | exact HB.out | apply below_alloc | apply pw_below_drewN | apply below_drew1 | refine below_set ?_ GE356.out | refine below_set ?_ GE367.out) | exact HB.out)) hb)
       clear HO349
       clear BK356
       clear BK367
       clear HB
       have HO349 := n0_
       have BK356 := n1_
       have BK367 := n2_
       have HB := n3_
       clear n0_ n1_ n2_ n3_
       (try clear hb)
       (try clear hb2)
       (try clear hk)
       (try clear hi)
       refine hK.out _ _ ⟨(blk_cell BK367.out 0).trans rfl, (blk_cell BK367.out 1).trans rfl, (blk_cell BK367.out 2).trans rfl, (blk_cell BK367.out 3).trans rfl, (blk_cell BK367.out 4).trans rfl⟩ (fun hHeld => ?_)
       clear hK K
       refine norm_ (a' := ?_) ?_ ?_
       rotate_left
       ·show Act.put _ (some 91) _ = _
        simp only [Act.put, List.setIfInBounds_toArray, List.set_cons_zero, List.set_cons_succ, i64_w, i32_w]
        rfl
       refine one_ (i := 17) (N := some 95) #[true, true, true, true, true, true, true, true, true, true, true, true, true, true, true, true, true, true, false, false, false, false] rfl rfl (one_of HT_.out (by kernel_rfl)) (by decide) (fun K hK => ?_)
       refine goes_ Tryd.func17 (by kernel_rfl) rfl #[.agg #[.string t361, .int .u64 t362, .int .i64 t363, .string t364, .string t365], .string t368, .string t345, .int .u64 t362, .int .u64 0] (by rfl) rfl rfl (by (try simp only [List.map_toArray, List.map_cons, List.map_nil]); first | done | rfl | (simp only [List.length_drop, List.length_take]; rfl)) ?_
       with_reducible refine (fresh_Check.calls k t361 t362 t363 t364 t365 t368 t345 t362 0 t369 _ A38.out ?sidev).mono ?_
       case sidev => exact Laid8.below HV.out (by repeat (first | (with_reducible first | exact HB.out | apply below_alloc | apply pw_below_drewN | apply below_drew1 | refine below_set ?_ GE356.out | refine below_set ?_ GE367.out) | exact HB.out))
       rintro e w55 ⟨rfl, hb⟩
       refine ⟨_, rfl, ?_⟩
       have n0_ := Aside0.mk (Kd.R_below (by (with_reducible repeat (first | apply Kd.R_alloc | apply Kd.R_drewN | apply Kd.R_drew)); exact HO349.out) hb)
       have n1_ := Aside0.mk (blk_below (g := gb356) (o := .cells #[.string t350, .int .u64 t351, .int .i64 t352, .string t353, .string t354] 28 (0, 0)) (by (with_reducible repeat (first | refine blk_drewN ?_ _ | refine blk_drew ?_ | refine blk_alloc ?_ _)); exact BK356.out) hb)
       have n2_ := Aside0.mk (blk_below (g := gb367) (o := .cells #[.string t361, .int .u64 t362, .int .i64 t363, .string t364, .string t365] 28 (0, 0)) (by (with_reducible repeat (first | refine blk_drewN ?_ _ | refine blk_drew ?_ | refine blk_alloc ?_ _)); exact BK367.out) hb)
       have n3_ := Aside0.mk (below_step (by repeat (first | (with_reducible first | exact HB.out | apply below_alloc | apply pw_below_drewN | apply below_drew1 | refine below_set ?_ GE356.out | refine below_set ?_ GE367.out) | exact HB.out)) hb)
       clear HO349
       clear BK356
       clear BK367
       clear HB
       have HO349 := n0_
       have BK356 := n1_
       have BK367 := n2_
       have HB := n3_
       clear n0_ n1_ n2_ n3_
       (try clear hb)
       (try clear hb2)
       (try clear hk)
       (try clear hi)
       refine hK.out _ _ ⟨(blk_cell BK367.out 0).trans rfl, (blk_cell BK367.out 1).trans rfl, (blk_cell BK367.out 2).trans rfl, (blk_cell BK367.out 3).trans rfl, (blk_cell BK367.out 4).trans rfl⟩ (fun hHeld => ?_)
       clear hK K
       refine norm_ (a' := ?_) ?_ ?_
       rotate_left
       ·show Act.put _ (some 95) _ = _
        simp only [Act.put, List.setIfInBounds_toArray, List.set_cons_zero, List.set_cons_succ, i64_w, i32_w]
        rfl
       refine pure_ (i := 18) (N := some 96) (v := ?_) (a' := ?_) #[true, true, true, true, true, true, true, true, true, true, true, true, true, true, true, true, true, true, true, false, false, false] rfl rfl (any_of HT_.out (by kernel_rfl)) (fun _ _ _ h => h) (Or.inl ⟨by rfl, ?_⟩) ?_ ?_
       rotate_left
       ·intro w'
        go_simp
        with_reducible rfl
       rotate_left
       ·simp only [Act.put, List.setIfInBounds_toArray, List.set_cons_zero, List.set_cons_succ, i64_w, i32_w]
        rfl
       refine pure_ (i := 19) (N := some 97) (v := ?_) (a' := ?_) #[true, true, true, true, true, true, true, true, true, true, true, true, true, true, true, true, true, true, true, true, false, false] rfl rfl (any_of HT_.out (by kernel_rfl)) (fun _ _ _ h => h) (Or.inl ⟨by rfl, ?_⟩) ?_ ?_
       rotate_left
       ·intro w'
        go_simp
        with_reducible rfl
       rotate_left
       ·simp only [Act.put, List.setIfInBounds_toArray, List.set_cons_zero, List.set_cons_succ, i64_w, i32_w]
        rfl
       refine pure_ (i := 20) (N := some 98) (v := ?_) (a' := ?_) #[true, true, true, true, true, true, true, true, true, true, true, true, true, true, true, true, true, true, true, true, true, false] rfl rfl (any_of HT_.out (by kernel_rfl)) (fun _ _ _ h => h) (Or.inl ⟨by rfl, ?_⟩) ?_ ?_
       rotate_left
       ·intro w'
        go_simp
        with_reducible rfl
       rotate_left
       ·simp only [Act.put, List.setIfInBounds_toArray, List.set_cons_zero, List.set_cons_succ, i64_w, i32_w]
        rfl
       refine pure_ (i := 21) (N := some 10) (v := ?_) (a' := ?_) #[true, true, true, true, true, true, true, true, true, true, true, true, true, true, true, true, true, true, true, true, true, true] rfl rfl (any_of HT_.out (by kernel_rfl)) (fun _ _ _ h => h) (Or.inl ⟨by rfl, ?_⟩) ?_ ?_
       rotate_left
       ·intro w'
        go_simp
        with_reducible rfl
       rotate_left
       ·simp only [Act.put, List.setIfInBounds_toArray, List.set_cons_zero, List.set_cons_succ, i64_w, i32_w]
        rfl
       refine done_ (done_of HT_.out (by kernel_rfl)) ?_
       try go_wp2
       go_ret
       exact ⟨by first | rfl | (simp [errW_none, errW_some] <;> rfl) | (simp [*, errW_none, errW_some] <;> rfl), by repeat (first | (with_reducible first | exact HB.out | apply below_alloc | apply pw_below_drewN | apply below_drew1 | refine below_set ?_ GE356.out | refine below_set ?_ GE367.out) | exact HB.out)⟩
      ·rw [if_neg c36] at H
       exact absurd H (by simp)
   ·rw [if_neg c14] at H
    exact absurd H (by simp)
  ·rw [if_neg c13] at H
   exact absurd H (by simp)
 ·replace c12 := Bool.eq_false_iff.mpr c12
  subst c12
  have H1 : (none) = some r := by rw [if_neg (show ¬ (false = true) by decide)] at H; exact H
  clear H
  have H := H1
  clear H1
  exact absurd H (by simp)
def letterlocklaw11_FreshSpoils.Pure : Prop := ∀ (a0 : Int) (a1 : Int) (l2 : List Int) (a3 : Int) (a4 : Int), (Lit.int .i64 a0).wf = true → (Lit.int .u64 a1).wf = true → l2.length ≤ maxLen → l2.length * 8 ≤ 140737488351232 → (∀ x ∈ l2, (Lit.int .i64 x).wf = true) → (Lit.int .i64 a3).wf = true → (Lit.int .i64 a4).wf = true → ∃ k, letterlocklaw11_FreshSpoils.f k a0 a1 l2 a3 a4 = some true
theorem letterlocklaw11_FreshSpoils.walk (P : letterlocklaw11_FreshSpoils.Pure) (a0 : Int) (a1 : Int) (a2 : Option Addr) (len2 cap2 : Nat) (z2 : List Int) (a3 : Int) (a4 : Int) (w : World) (w0 : (Lit.int .i64 a0).wf = true) (w1 : (Lit.int .u64 a1).wf = true) (w2 : (a2 = none ∧ len2 = 0 ∧ cap2 = 0 ∧ z2 = []) ∨ ∃ x, a2 = some x ∧ len2 ≤ cap2 ∧ cap2 ≤ maxLen ∧ z2.length = cap2 ∧ (∀ i, i < z2.length → w.cell? (x.add i) = some (.int .i64 (z2.getD i 0))) ∧ ∀ n ∈ z2, (Lit.int .i64 n).wf = true) (y2 : len2 * 8 ≤ 140737488351232) (w3 : (Lit.int .i64 a3).wf = true) (w4 : (Lit.int .i64 a4).wf = true) (hV : Laid8 w) :
  Calls Tryd.prog 7 #[.int .i64 a0, .int .u64 a1, .slice a2 len2 cap2, .int .i64 a3, .int .i64 a4] w fun e w' => e = .returned (.bool true) ∧ Below w.heap.size w w' := by
 obtain ⟨l2, rfl, hr2, hm2, hw2, hc2⟩ := ReadsInt.ofRowC w2
 obtain ⟨k, h⟩ := P a0 a1 l2 a3 a4 w0 w1 hm2 y2 hw2 w3 w4
 refine (letterlocklaw11_FreshSpoils.calls k a0 a1 _ _ l2 a3 a4 true w (Kd.C_of_reads (d := (0 : Int)) (h1 := fun _ => rfl) hr2) hc2 h hV).mono ?_
 rintro e w' ⟨rfl, hd⟩
 exact ⟨rfl, hd⟩
end Go.Proofs.YtodiffgpefidoaaDoor.P

