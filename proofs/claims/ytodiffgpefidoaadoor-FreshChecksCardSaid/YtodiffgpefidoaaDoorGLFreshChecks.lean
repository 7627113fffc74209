/- Slimmed by wip/slim.py. -/
import Derived.Test.YtodiffgpefidoaaDoorG0
import Derived.Test.YtodiffgpefidoaaDoorGEq
import Derived.Test.YtodiffgpefidoaaDoorGFresh
import Derived.Test.YtodiffgpefidoaaDoorGFresh1
import Derived.Test.YtodiffgpefidoaaDoorGLaw11
import Derived.Test.YtodiffgpefidoaaDoorGLaw11R
namespace Go.Proofs.YtodiffgpefidoaaDoor.P
open Go.RowKit Go.Proofs.YtodiffgpefidoaaDoorW.PrintWords Go.Proofs.YtodiffgpefidoaaDoorW.PrintLast Go.Proofs.YtodiffgpefidoaaDoorW.PrintMore
attribute [local go_sem] max2_int min2_int max_two min_two max_three min_three max_four min_four
set_option linter.unusedVariables false
set_option linter.unusedSimpArgs false
attribute [local go_sem high] eqA28
mutual
def letterlocklaw11_FreshChecks.j0 : Nat → Int → Int → Int → ByteArray → Int → Bool → ByteArray → Int → Int → ByteArray → ByteArray → Option (Bool)
 | 0, _, _, _, _, _, _, _, _, _, _, _ => none
 | k + 1, x0, x2, x3, x12, x19, x86, x357000, x357001, x357002, x357003, x357004 => if x86 = true then (letterlocklaw11_FreshChecks.j1 k x0 x2 x3 x12 8 x357000 x357001 x357002 x357003 x357004) else (letterlocklaw11_FreshChecks.j1 k x0 x2 x3 x12 x19 x357000 x357001 x357002 x357003 x357004)
def letterlocklaw11_FreshChecks.j1 : Nat → Int → Int → Int → ByteArray → Int → ByteArray → Int → Int → ByteArray → ByteArray → Option (Bool)
 | 0, _, _, _, _, _, _, _, _, _, _ => none
 | k + 1, x0, x2, x3, x12, x19, x357000, x357001, x357002, x357003, x357004 => (letterlocklaw11_pick.f x0 8).bind fun t369 => ((letterlocklaw11_who.f (wrap64 (t369 + 1))).bind fun t370 => ((letterlocklaw11_publicOf.f k x12).bind fun t373 => ((fresh_Check.f k x357000 x357001 x357002 x357003 x357004 t373 x12 x2 x3).bind fun t374 => (if t374 = x19 then ((letterlocklaw11_publicOf.f k t370).bind fun t375 => ((fresh_Check.f k x357000 x357001 x357002 x357003 x357004 t375 x12 x2 x3).bind fun t376 => (if t376 = 7 then ((letterlocklaw11_publicOf.f k x12).bind fun t377 => ((fresh_Check.f k x357000 x357001 x357002 x357003 x357004 t377 t370 x2 x3).bind fun t378 => (if t378 = 3 then ((letterlocklaw11_publicOf.f k x12).bind fun t379 => ((fresh_Check.f k x357000 (IntKind.u64.wrap (x357001 + 1)) x357002 x357003 x357004 t379 x12 x2 x3).bind fun t380 => (if t380 = 7 then ((letterlocklaw11_publicOf.f k x12).bind fun t381 => ((fresh_Check.f k x357000 x357001 (Int.tmod (wrap64 (x357002 + 1)) 9) x357003 x357004 t381 x12 x2 x3).bind fun t382 => (if t382 = 7 then ((letterlocklaw11_secretOf.f k x12).bind fun t383 => ((fresh_Check.f k x357000 x357001 x357002 x357003 x357004 t383 x12 x2 x3).bind fun t384 => (some (t384 == 1)))) else (none)))) else (none)))) else (none)))) else (none)))) else (none)))))
end
def letterlocklaw11_FreshChecks.f (k : Nat) (a0 : Int) (a1 : Int) (a2 : Int) (a3 : Int) (l4 : List Int) : Option (Bool) := (letterlocklaw11_shown.f k).bind fun t344 => (if t344 = true then ((letterlocklaw11_who.f a0).bind fun t345 => ((letterlocklaw11_secretOf.f k t345).bind fun t346 => ((letterlocklaw11_row.f k l4).bind fun t347 => ((fresh_Build.f k t346 t345 a1 t347).bind fun bt350 => ((fresh_Put.f k bt350.1 bt350.2.1 bt350.2.2.1 bt350.2.2.2.1 bt350.2.2.2.2.1).bind fun bt357 => ((fresh_Take.f k bt357.1).bind fun bt359 => (if bt350.2.2.2.2.2 = 0 then (if bt357.2 = 0 then (if bt359.2.2.2.2.2 = 0 then (if (!(bt359.1.toList == bt350.1.toList) || (!(bt359.2.1 == bt350.2.1) || (!(bt359.2.2.1 == bt350.2.2.1) || (!(bt359.2.2.2.1.toList == bt350.2.2.2.1.toList) || (!(bt359.2.2.2.2.1.toList == bt350.2.2.2.2.1.toList)))))) = true then (none) else ((letterlocklaw11_row.f k l4).bind fun t366 => (if bt350.2.2.1 = (t366.length : Int) then (if bt350.2.1 = a1 then (if a2 < a1 then (letterlocklaw11_FreshChecks.j0 k a0 a2 a3 t345 0 true bt350.1 bt350.2.1 bt350.2.2.1 bt350.2.2.2.1 bt350.2.2.2.2.1) else (letterlocklaw11_FreshChecks.j0 k a0 a2 a3 t345 0 (decide ((IntKind.u64.wrap (a2 - a1)) > a3)) bt350.1 bt350.2.1 bt350.2.2.1 bt350.2.2.2.1 bt350.2.2.2.2.1)) else (none)) else (none)))) else (none)) else (none)) else (none)))))))) else (none))
def letterlocklaw11_FreshChecks.T8 : Bool × List (List Nat × List Nat) := (true, [([], []), ([0], [0]), ([1], [1]), ([2], [2]), ([3, 2], [2, 3]), ([2, 4], [2, 4]), ([5, 2], [5]), ([6], [6]), ([7, 6], [6, 7]), ([6, 8], [6, 8]), ([9, 6], [9]), ([10], [10]), ([10], [10]), ([11, 12, 10], [10, 11, 12]), ([10, 13], [10, 13]), ([14, 10], [14]), ([15], [15]), ([16, 15], [15, 16]), ([15], [15]), ([18, 15, 15], [15, 18]), ([19, 15], [15, 19]), ([17, 20, 15], [15, 17, 20]), ([15, 21], [15, 21]), ([22, 19], [22]), ([23], [23]), ([24, 23], [23, 24]), ([23], [23]), ([25, 26, 23], [23, 25, 26]), ([23, 27], [23, 27])])
def letterlocklaw11_FreshChecks.B8 : List Nat := [0, 1, 3, 7, 15, 31, 63, 127, 255, 511, 1023, 2047, 2047, 8191, 16383, 32767, 65535, 131071, 65535, 327679, 851967, 2097151, 4194303, 8388607, 16777215, 33554431, 16777215, 134217727, 268435455]
theorem letterlocklaw11_FreshChecks.tab8 : rtab .any (opsOf Tryd.f6 8) = letterlocklaw11_FreshChecks.T8 := by kernel_rfl
theorem letterlocklaw11_FreshChecks.bits8 : waitsOk letterlocklaw11_FreshChecks.T8.2 letterlocklaw11_FreshChecks.B8 = true := by kernel_rfl
def letterlocklaw11_FreshChecks.T18 : Bool × List (List Nat × List Nat) := (true, [([], []), ([], []), ([1], [1]), ([], []), ([], []), ([], []), ([0, 2, 3, 4, 5, 2], [0, 2, 3, 4, 5]), ([], []), ([6, 7], [6, 7]), ([8, 6], [8]), ([9], [9]), ([9], [9]), ([11, 9, 9], [9, 11]), ([9], [9]), ([9], [9]), ([9], [9]), ([10, 12, 13, 14, 15, 12, 9], [9, 10, 12, 13, 14, 15]), ([16, 9], [9, 16]), ([9, 17], [9, 17]), ([18, 16], [18]), ([19], [19]), ([19], [19]), ([21, 19, 19], [19, 21]), ([19], [19]), ([19], [19]), ([19], [19]), ([20, 22, 23, 24, 25, 22, 19], [19, 20, 22, 23, 24, 25]), ([26, 19], [19, 26]), ([19, 27], [19, 27]), ([28, 26], [28]), ([29], [29]), ([29], [29]), ([31, 29, 29], [29, 31]), ([29], [29]), ([29], [29]), ([29], [29]), ([30, 32, 33, 34, 35, 32, 29], [29, 30, 32, 33, 34, 35]), ([36, 29], [29, 36]), ([29, 37], [29, 37]), ([38, 36], [38]), ([39], [39]), ([39], [39]), ([41, 39, 39], [39, 41]), ([39], [39]), ([39], [39]), ([39], [39]), ([40, 42, 43, 44, 45, 42, 39], [39, 40, 42, 43, 44, 45]), ([46, 39], [39, 46]), ([39, 47], [39, 47]), ([48, 46], [48]), ([49], [49]), ([49], [49]), ([51, 49, 49], [49, 51]), ([49], [49]), ([49], [49]), ([49], [49]), ([50, 52, 53, 54, 55, 52, 49], [49, 50, 52, 53, 54, 55]), ([56, 49], [49, 56]), ([49, 57], [49, 57]), ([58, 56, 0, 1, 2, 3, 4, 5, 6, 7, 8, 9, 10, 11, 12, 13, 14, 15, 16, 17, 18, 19, 20, 21, 22, 23, 24, 25, 26, 27, 28, 29, 30, 31, 32, 33, 34, 35, 36, 37, 38, 39, 40, 41, 42, 43, 44, 45, 46, 47, 48, 49, 50, 51, 52, 53, 54, 55, 56, 57, 58], [58])])
def letterlocklaw11_FreshChecks.B18 : List Nat := [0, 0, 2, 0, 0, 0, 63, 0, 255, 511, 1023, 1023, 3071, 1023, 1023, 1023, 65535, 131071, 262143, 524287, 1048575, 1048575, 3145727, 1048575, 1048575, 1048575, 67108863, 134217727, 268435455, 536870911, 1073741823, 1073741823, 3221225471, 1073741823, 1073741823, 1073741823, 68719476735, 137438953471, 274877906943, 549755813887, 1099511627775, 1099511627775, 3298534883327, 1099511627775, 1099511627775, 1099511627775, 70368744177663, 140737488355327, 281474976710655, 562949953421311, 1125899906842623, 1125899906842623, 3377699720527871, 1125899906842623, 1125899906842623, 1125899906842623, 72057594037927935, 144115188075855871, 288230376151711743, 576460752303423487]
theorem letterlocklaw11_FreshChecks.tab18 : rtab .any (opsOf Tryd.f6 18) = letterlocklaw11_FreshChecks.T18 := by kernel_rfl
theorem letterlocklaw11_FreshChecks.bits18 : waitsOk letterlocklaw11_FreshChecks.T18.2 letterlocklaw11_FreshChecks.B18 = true := by kernel_rfl
set_option maxHeartbeats 8000000 in
set_option maxRecDepth 100000 in
theorem letterlocklaw11_FreshChecks.calls (k : Nat) (a0 : Int) (a1 : Int) (a2 : Int) (a3 : Int) (A4 : Option Addr) (c4 : Nat) (l4 : List Int) (r : Bool) (w : World) (hr4 : Kd.C (Kd.int .i64) w A4 l4.length l4) (hc4 : l4.length ≤ c4) (h : letterlocklaw11_FreshChecks.f k a0 a1 a2 a3 l4 = some r) (hV : Laid8 w) :
  Calls Tryd.prog 6 #[.int .i64 a0, .int .u64 a1, .int .u64 a2, .int .u64 a3, .slice A4 l4.length c4] w fun e w' => e = .returned (.bool r) ∧ Below w.heap.size w w' := by
 have HV := Aside0.mk hV
 clear hV
 have hu28 := Tryd.underlying28
 have HR4 := Aside0.mk hr4
 have HC4 := Aside0.mk hc4
 clear hr4 hc4
 have HB := Aside0.mk (Below.refl w.heap.size w)
 have H : ((letterlocklaw11_shown.f k).bind fun t344 => (if t344 = true then ((letterlocklaw11_who.f a0).bind fun t345 => ((letterlocklaw11_secretOf.f k t345).bind fun t346 => ((letterlocklaw11_row.f k l4).bind fun t347 => ((fresh_Build.f k t346 t345 a1 t347).bind fun bt350 => ((fresh_Put.f k bt350.1 bt350.2.1 bt350.2.2.1 bt350.2.2.2.1 bt350.2.2.2.2.1).bind fun bt357 => ((fresh_Take.f k bt357.1).bind fun bt359 => (if bt350.2.2.2.2.2 = 0 then (if bt357.2 = 0 then (if bt359.2.2.2.2.2 = 0 then (if (!(bt359.1.toList == bt350.1.toList) || (!(bt359.2.1 == bt350.2.1) || (!(bt359.2.2.1 == bt350.2.2.1) || (!(bt359.2.2.2.1.toList == bt350.2.2.2.1.toList) || (!(bt359.2.2.2.2.1.toList == bt350.2.2.2.2.1.toList)))))) = true then (none) else ((letterlocklaw11_row.f k l4).bind fun t366 => (if bt350.2.2.1 = (t366.length : Int) then (if bt350.2.1 = a1 then (if a2 < a1 then (letterlocklaw11_FreshChecks.j0 k a0 a2 a3 t345 0 true bt350.1 bt350.2.1 bt350.2.2.1 bt350.2.2.2.1 bt350.2.2.2.2.1) else (letterlocklaw11_FreshChecks.j0 k a0 a2 a3 t345 0 (decide ((IntKind.u64.wrap (a2 - a1)) > a3)) bt350.1 bt350.2.1 bt350.2.2.1 bt350.2.2.2.1 bt350.2.2.2.2.1)) else (none)) else (none)))) else (none)) else (none)) else (none)))))))) else (none))) = some r := h
 clear h
 replace H := Option.bind_eq_some_iff.mp H
 obtain ⟨t344, A60, H⟩ := H
 replace H : (if t344 = true then ((letterlocklaw11_who.f a0).bind fun t345 => ((letterlocklaw11_secretOf.f k t345).bind fun t346 => ((letterlocklaw11_row.f k l4).bind fun t347 => ((fresh_Build.f k t346 t345 a1 t347).bind fun bt350 => ((fresh_Put.f k bt350.1 bt350.2.1 bt350.2.2.1 bt350.2.2.2.1 bt350.2.2.2.2.1).bind fun bt357 => ((fresh_Take.f k bt357.1).bind fun bt359 => (if bt350.2.2.2.2.2 = 0 then (if bt357.2 = 0 then (if bt359.2.2.2.2.2 = 0 then (if (!(bt359.1.toList == bt350.1.toList) || (!(bt359.2.1 == bt350.2.1) || (!(bt359.2.2.1 == bt350.2.2.1) || (!(bt359.2.2.2.1.toList == bt350.2.2.2.1.toList) || (!(bt359.2.2.2.2.1.toList == bt350.2.2.2.2.1.toList)))))) = true then (none) else ((letterlocklaw11_row.f k l4).bind fun t366 => (if bt350.2.2.1 = (t366.length : Int) then (if bt350.2.1 = a1 then (if a2 < a1 then (letterlocklaw11_FreshChecks.j0 k a0 a2 a3 t345 0 true bt350.1 bt350.2.1 bt350.2.2.1 bt350.2.2.2.1 bt350.2.2.2.2.1) else (letterlocklaw11_FreshChecks.j0 k a0 a2 a3 t345 0 (decide ((IntKind.u64.wrap (a2 - a1)) > a3)) bt350.1 bt350.2.1 bt350.2.2.1 bt350.2.2.2.1 bt350.2.2.2.2.1)) else (none)) else (none)))) else (none)) else (none)) else (none)))))))) else (none)) = some r := H
 have A6 := Aside0.mk A60
 clear A60
 by_cases c7 : t344 = true
 ·subst c7
  have H1 : ((letterlocklaw11_who.f a0).bind fun t345 => ((letterlocklaw11_secretOf.f k t345).bind fun t346 => ((letterlocklaw11_row.f k l4).bind fun t347 => ((fresh_Build.f k t346 t345 a1 t347).bind fun bt350 => ((fresh_Put.f k bt350.1 bt350.2.1 bt350.2.2.1 bt350.2.2.2.1 bt350.2.2.2.2.1).bind fun bt357 => ((fresh_Take.f k bt357.1).bind fun bt359 => (if bt350.2.2.2.2.2 = 0 then (if bt357.2 = 0 then (if bt359.2.2.2.2.2 = 0 then (if (!(bt359.1.toList == bt350.1.toList) || (!(bt359.2.1 == bt350.2.1) || (!(bt359.2.2.1 == bt350.2.2.1) || (!(bt359.2.2.2.1.toList == bt350.2.2.2.1.toList) || (!(bt359.2.2.2.2.1.toList == bt350.2.2.2.2.1.toList)))))) = true then (none) else ((letterlocklaw11_row.f k l4).bind fun t366 => (if bt350.2.2.1 = (t366.length : Int) then (if bt350.2.1 = a1 then (if a2 < a1 then (letterlocklaw11_FreshChecks.j0 k a0 a2 a3 t345 0 true bt350.1 bt350.2.1 bt350.2.2.1 bt350.2.2.2.1 bt350.2.2.2.2.1) else (letterlocklaw11_FreshChecks.j0 k a0 a2 a3 t345 0 (decide ((IntKind.u64.wrap (a2 - a1)) > a3)) bt350.1 bt350.2.1 bt350.2.2.1 bt350.2.2.2.1 bt350.2.2.2.2.1)) else (none)) else (none)))) else (none)) else (none)) else (none)))))))) = some r := by rw [if_pos rfl] at H; exact H
  clear H
  have H := H1
  clear H1
  replace H := Option.bind_eq_some_iff.mp H
  obtain ⟨t345, A80, H⟩ := H
  replace H : ((letterlocklaw11_secretOf.f k t345).bind fun t346 => ((letterlocklaw11_row.f k l4).bind fun t347 => ((fresh_Build.f k t346 t345 a1 t347).bind fun bt350 => ((fresh_Put.f k bt350.1 bt350.2.1 bt350.2.2.1 bt350.2.2.2.1 bt350.2.2.2.2.1).bind fun bt357 => ((fresh_Take.f k bt357.1).bind fun bt359 => (if bt350.2.2.2.2.2 = 0 then (if bt357.2 = 0 then (if bt359.2.2.2.2.2 = 0 then (if (!(bt359.1.toList == bt350.1.toList) || (!(bt359.2.1 == bt350.2.1) || (!(bt359.2.2.1 == bt350.2.2.1) || (!(bt359.2.2.2.1.toList == bt350.2.2.2.1.toList) || (!(bt359.2.2.2.2.1.toList == bt350.2.2.2.2.1.toList)))))) = true then (none) else ((letterlocklaw11_row.f k l4).bind fun t366 => (if bt350.2.2.1 = (t366.length : Int) then (if bt350.2.1 = a1 then (if a2 < a1 then (letterlocklaw11_FreshChecks.j0 k a0 a2 a3 t345 0 true bt350.1 bt350.2.1 bt350.2.2.1 bt350.2.2.2.1 bt350.2.2.2.2.1) else (letterlocklaw11_FreshChecks.j0 k a0 a2 a3 t345 0 (decide ((IntKind.u64.wrap (a2 - a1)) > a3)) bt350.1 bt350.2.1 bt350.2.2.1 bt350.2.2.2.1 bt350.2.2.2.2.1)) else (none)) else (none)))) else (none)) else (none)) else (none))))))) = some r := H
  have A8 := Aside0.mk A80
  clear A80
  replace H := Option.bind_eq_some_iff.mp H
  obtain ⟨t346, A90, H⟩ := H
  replace H : ((letterlocklaw11_row.f k l4).bind fun t347 => ((fresh_Build.f k t346 t345 a1 t347).bind fun bt350 => ((fresh_Put.f k bt350.1 bt350.2.1 bt350.2.2.1 bt350.2.2.2.1 bt350.2.2.2.2.1).bind fun bt357 => ((fresh_Take.f k bt357.1).bind fun bt359 => (if bt350.2.2.2.2.2 = 0 then (if bt357.2 = 0 then (if bt359.2.2.2.2.2 = 0 then (if (!(bt359.1.toList == bt350.1.toList) || (!(bt359.2.1 == bt350.2.1) || (!(bt359.2.2.1 == bt350.2.2.1) || (!(bt359.2.2.2.1.toList == bt350.2.2.2.1.toList) || (!(bt359.2.2.2.2.1.toList == bt350.2.2.2.2.1.toList)))))) = true then (none) else ((letterlocklaw11_row.f k l4).bind fun t366 => (if bt350.2.2.1 = (t366.length : Int) then (if bt350.2.1 = a1 then (if a2 < a1 then (letterlocklaw11_FreshChecks.j0 k a0 a2 a3 t345 0 true bt350.1 bt350.2.1 bt350.2.2.1 bt350.2.2.2.1 bt350.2.2.2.2.1) else (letterlocklaw11_FreshChecks.j0 k a0 a2 a3 t345 0 (decide ((IntKind.u64.wrap (a2 - a1)) > a3)) bt350.1 bt350.2.1 bt350.2.2.1 bt350.2.2.2.1 bt350.2.2.2.2.1)) else (none)) else (none)))) else (none)) else (none)) else (none)))))) = some r := H
  have A9 := Aside0.mk A90
  clear A90
  replace H := Option.bind_eq_some_iff.mp H
  obtain ⟨t347, A100, H⟩ := H
  replace H : ((fresh_Build.f k t346 t345 a1 t347).bind fun bt350 => ((fresh_Put.f k bt350.1 bt350.2.1 bt350.2.2.1 bt350.2.2.2.1 bt350.2.2.2.2.1).bind fun bt357 => ((fresh_Take.f k bt357.1).bind fun bt359 => (if bt350.2.2.2.2.2 = 0 then (if bt357.2 = 0 then (if bt359.2.2.2.2.2 = 0 then (if (!(bt359.1.toList == bt350.1.toList) || (!(bt359.2.1 == bt350.2.1) || (!(bt359.2.2.1 == bt350.2.2.1) || (!(bt359.2.2.2.1.toList == bt350.2.2.2.1.toList) || (!(bt359.2.2.2.2.1.toList == bt350.2.2.2.2.1.toList)))))) = true then (none) else ((letterlocklaw11_row.f k l4).bind fun t366 => (if bt350.2.2.1 = (t366.length : Int) then (if bt350.2.1 = a1 then (if a2 < a1 then (letterlocklaw11_FreshChecks.j0 k a0 a2 a3 t345 0 true bt350.1 bt350.2.1 bt350.2.2.1 bt350.2.2.2.1 bt350.2.2.2.2.1) else (letterlocklaw11_FreshChecks.j0 k a0 a2 a3 t345 0 (decide ((IntKind.u64.wrap (a2 - a1)) > a3)) bt350.1 bt350.2.1 bt350.2.2.1 bt350.2.2.2.1 bt350.2.2.2.2.1)) else (none)) else (none)))) else (none)) else (none)) else (none))))) = some r := H
  have A10 := Aside0.mk A100
  clear A100
  replace H := Option.bind_eq_some_iff.mp H
  obtain ⟨⟨t350, t351, t352, t353, t354, t355⟩, A110, H⟩ := H
  replace H : ((fresh_Put.f k t350 t351 t352 t353 t354).bind fun bt357 => ((fresh_Take.f k bt357.1).bind fun bt359 => (if t355 = 0 then (if bt357.2 = 0 then (if bt359.2.2.2.2.2 = 0 then (if (!(bt359.1.toList == t350.toList) || (!(bt359.2.1 == t351) || (!(bt359.2.2.1 == t352) || (!(bt359.2.2.2.1.toList == t353.toList) || (!(bt359.2.2.2.2.1.toList == t354.toList)))))) = true then (none) else ((letterlocklaw11_row.f k l4).bind fun t366 => (if t352 = (t366.length : Int) then (if t351 = a1 then (if a2 < a1 then (letterlocklaw11_FreshChecks.j0 k a0 a2 a3 t345 0 true t350 t351 t352 t353 t354) else (letterlocklaw11_FreshChecks.j0 k a0 a2 a3 t345 0 (decide ((IntKind.u64.wrap (a2 - a1)) > a3)) t350 t351 t352 t353 t354)) else (none)) else (none)))) else (none)) else (none)) else (none)))) = some r := H
  have A11 := Aside0.mk A110
  clear A110
  replace H := Option.bind_eq_some_iff.mp H
  obtain ⟨⟨t357, t358⟩, A120, H⟩ := H
  replace H : ((fresh_Take.f k t357).bind fun bt359 => (if t355 = 0 then (if t358 = 0 then (if bt359.2.2.2.2.2 = 0 then (if (!(bt359.1.toList == t350.toList) || (!(bt359.2.1 == t351) || (!(bt359.2.2.1 == t352) || (!(bt359.2.2.2.1.toList == t353.toList) || (!(bt359.2.2.2.2.1.toList == t354.toList)))))) = true then (none) else ((letterlocklaw11_row.f k l4).bind fun t366 => (if t352 = (t366.length : Int) then (if t351 = a1 then (if a2 < a1 then (letterlocklaw11_FreshChecks.j0 k a0 a2 a3 t345 0 true t350 t351 t352 t353 t354) else (letterlocklaw11_FreshChecks.j0 k a0 a2 a3 t345 0 (decide ((IntKind.u64.wrap (a2 - a1)) > a3)) t350 t351 t352 t353 t354)) else (none)) else (none)))) else (none)) else (none)) else (none))) = some r := H
  have A12 := Aside0.mk A120
  clear A120
  replace H := Option.bind_eq_some_iff.mp H
  obtain ⟨⟨t359, t360, t361, t362, t363, t364⟩, A130, H⟩ := H
  replace H : (if t355 = 0 then (if t358 = 0 then (if t364 = 0 then (if (!(t359.toList == t350.toList) || (!(t360 == t351) || (!(t361 == t352) || (!(t362.toList == t353.toList) || (!(t363.toList == t354.toList)))))) = true then (none) else ((letterlocklaw11_row.f k l4).bind fun t366 => (if t352 = (t366.length : Int) then (if t351 = a1 then (if a2 < a1 then (letterlocklaw11_FreshChecks.j0 k a0 a2 a3 t345 0 true t350 t351 t352 t353 t354) else (letterlocklaw11_FreshChecks.j0 k a0 a2 a3 t345 0 (decide ((IntKind.u64.wrap (a2 - a1)) > a3)) t350 t351 t352 t353 t354)) else (none)) else (none)))) else (none)) else (none)) else (none)) = some r := H
  have A13 := Aside0.mk A130
  clear A130
  by_cases c14 : t355 = 0
  ·rw [if_pos c14] at H
   have c14b0 : (t355 == 0) = true := beq_iff_eq.mpr c14
   have c14b1 : (t355 != 0) = false := bne_eq_false_iff_eq.mpr c14
   clear c14
   by_cases c15 : t358 = 0
   ·rw [if_pos c15] at H
    have c15b0 : (t358 == 0) = true := beq_iff_eq.mpr c15
    have c15b1 : (t358 != 0) = false := bne_eq_false_iff_eq.mpr c15
    clear c15
    by_cases c16 : t364 = 0
    ·rw [if_pos c16] at H
     have c16b0 : (t364 == 0) = true := beq_iff_eq.mpr c16
     have c16b1 : (t364 != 0) = false := bne_eq_false_iff_eq.mpr c16
     clear c16
     by_cases c17 : (!(t359.toList == t350.toList) || (!(t360 == t351) || (!(t361 == t352) || (!(t362.toList == t353.toList) || (!(t363.toList == t354.toList)))))) = true
     ·rw [if_pos c17] at H
      exact absurd H (by simp)
     ·rw [if_neg c17] at H
      have c17b0 : (!(t359.toList == t350.toList) || (!(t360 == t351) || (!(t361 == t352) || (!(t362.toList == t353.toList) || (!(t363.toList == t354.toList)))))) = false := by simpa using c17
      clear c17
      replace H := Option.bind_eq_some_iff.mp H
      obtain ⟨t366, A180, H⟩ := H
      replace H : (if t352 = (t366.length : Int) then (if t351 = a1 then (if a2 < a1 then (letterlocklaw11_FreshChecks.j0 k a0 a2 a3 t345 0 true t350 t351 t352 t353 t354) else (letterlocklaw11_FreshChecks.j0 k a0 a2 a3 t345 0 (decide ((IntKind.u64.wrap (a2 - a1)) > a3)) t350 t351 t352 t353 t354)) else (none)) else (none)) = some r := H
      have A18 := Aside0.mk A180
      clear A180
      by_cases c19 : t352 = (t366.length : Int)
      ·rw [if_pos c19] at H
       have c19b0 : (t352 == (t366.length : Int)) = true := beq_iff_eq.mpr c19
       have c19b1 : (t352 != (t366.length : Int)) = false := bne_eq_false_iff_eq.mpr c19
       clear c19
       by_cases c20 : t351 = a1
       ·rw [if_pos c20] at H
        have c20b0 : (t351 == a1) = true := beq_iff_eq.mpr c20
        have c20b1 : (t351 != a1) = false := bne_eq_false_iff_eq.mpr c20
        clear c20
        have HC21 := Aside0.mk H
        clear H
        go_enter Tryd.func6, Tryd.ntmps6
        try go_wp2_with (first | ((with_reducible refine gate_callee (f := 8) rfl ?_); refine goesL_ (some 23) rfl rfl Tryd.func8 (by kernel_rfl) rfl #[] rfl (by (try simp only [List.map_toArray, List.map_cons, List.map_nil]); first | done | rfl | (simp only [List.length_drop, List.length_take]; rfl)) ?_; (with_reducible refine (letterlocklaw11_shown.calls k  true _ A6.out ?sidev).mono ?_); (case sidev => exact Laid8.below HV.out (by repeat (first | (with_reducible first | exact HB.out | apply below_alloc | apply pw_below_drewN | apply below_drew1) | exact HB.out))); rintro e w22 ⟨rfl, hb⟩; refine ⟨_, rfl, ?_⟩; have n0_ := Aside0.mk (below_step (by repeat (first | (with_reducible first | exact HB.out | apply below_alloc | apply pw_below_drewN | apply below_drew1) | exact HB.out)) hb); clear HB; have HB := n0_; clear n0_; (try clear hb); (try clear hb2); (try clear hk); (try clear hi)) | ((with_reducible refine gate_callee (f := 16) rfl ?_); refine goesL_ (some 27) rfl rfl Tryd.func16 (by kernel_rfl) rfl #[.int .i64 a0] rfl (by (try simp only [List.map_toArray, List.map_cons, List.map_nil]); first | done | rfl | (simp only [List.length_drop, List.length_take]; rfl)) ?_; (with_reducible refine (letterlocklaw11_who.calls a0 t345 _ A8.out).mono ?_); rintro e w23 ⟨rfl, hb⟩; refine ⟨_, rfl, ?_⟩; have n0_ := Aside0.mk (below_step (by repeat (first | (with_reducible first | exact HB.out | apply below_alloc | apply pw_below_drewN | apply below_drew1) | exact HB.out)) hb); clear HB; have HB := n0_; clear n0_; (try clear hb); (try clear hb2); (try clear hk); (try clear hi)) | ((with_reducible refine gate_callee (f := 11) rfl ?_); refine goesL_ (some 30) rfl rfl Tryd.func11 (by kernel_rfl) rfl #[.string t345] rfl (by (try simp only [List.map_toArray, List.map_cons, List.map_nil]); first | done | rfl | (simp only [List.length_drop, List.length_take]; rfl)) ?_; (with_reducible refine (letterlocklaw11_secretOf.calls k t345 t346 _ A9.out).mono ?_); rintro e w24 ⟨rfl, hb⟩; refine ⟨_, rfl, ?_⟩; have n0_ := Aside0.mk (below_step (by repeat (first | (with_reducible first | exact HB.out | apply below_alloc | apply pw_below_drewN | apply below_drew1) | exact HB.out)) hb); clear HB; have HB := n0_; clear n0_; (try clear hb); (try clear hb2); (try clear hk); (try clear hi)) | ((with_reducible refine gate_callee (f := 9) rfl ?_); refine goesL_ (some 34) rfl rfl Tryd.func9 (by kernel_rfl) rfl #[.slice A4 l4.length c4] rfl (by (try simp only [List.map_toArray, List.map_cons, List.map_nil]); first | done | rfl | (simp only [List.length_drop, List.length_take]; rfl)) ?_; (with_reducible refine (letterlocklaw11_row.calls k _ _ l4 t347 _ ?side1 ?side2 A10.out).mono ?_); (case side1 => repeat (first | exact (Kd.C_below HR4.out HB.out) | (with_reducible refine Kd.C_alloc ?_ _) | (with_reducible refine Kd.C_drewN ?_ _) | (with_reducible refine Kd.C_drew ?_))); (case side2 => exact HC4.out); rintro e w25 ⟨v348, rfl, ho0, hb⟩; refine ⟨_, rfl, ?_⟩; have n0_ := Aside0.mk (Kd.R_lower ho0 (below_size (by repeat (first | (with_reducible first | exact HB.out | apply below_alloc | apply pw_below_drewN | apply below_drew1) | exact HB.out)))); have n1_ := Aside0.mk (below_step (by repeat (first | (with_reducible first | exact HB.out | apply below_alloc | apply pw_below_drewN | apply below_drew1) | exact HB.out)) hb); clear HB; have HO349 := n0_; have HB := n1_; clear n0_ n1_; (try clear hb); (try clear hb2); (try clear hk); (try clear hi); (try clear ho0); obtain ⟨Ao26, co26, eo26⟩ := Kd.R_slice HO349.out; subst eo26) | ((with_reducible refine gate_callee (f := 10) rfl ?_); refine goesL_ (some 35) rfl rfl Tryd.func10 (by kernel_rfl) rfl #[.string t346, .string t345, .int .u64 a1, .slice Ao26 t347.length co26] rfl (by (try simp only [List.map_toArray, List.map_cons, List.map_nil]); first | done | rfl | (simp only [List.length_drop, List.length_take]; rfl)) ?_; (with_reducible refine (fresh_Build.calls k t346 t345 a1 _ _ t347 t350 t351 t352 t353 t354 t355 _ ?side1 ?side2 A11.out ?sidev).mono ?_); (case sidev => exact Laid8.below HV.out (by repeat (first | (with_reducible first | exact HB.out | apply below_alloc | apply pw_below_drewN | apply below_drew1) | exact HB.out))); (case side1 => repeat (first | exact (Kd.R_reads' HO349.out).2.2 | (with_reducible refine Kd.C_alloc ?_ _) | (with_reducible refine Kd.C_drewN ?_ _) | (with_reducible refine Kd.C_drew ?_))); (case side2 => exact (Kd.R_reads' HO349.out).2.1); rintro e w27 ⟨rfl, hb⟩; refine ⟨_, rfl, ?_⟩; have n0_ := Aside0.mk (Kd.R_below (by (with_reducible repeat (first | apply Kd.R_alloc | apply Kd.R_drewN | apply Kd.R_drew)); exact HO349.out) hb); have n1_ := Aside0.mk (below_step (by repeat (first | (with_reducible first | exact HB.out | apply below_alloc | apply pw_below_drewN | apply below_drew1) | exact HB.out)) hb); clear HO349; clear HB; have HO349 := n0_; have HB := n1_; clear n0_ n1_; (try clear hb); (try clear hb2); (try clear hk); (try clear hi)) | ((with_reducible refine gate_dst (N := 13) rfl ?_); (try (refine gate_guard (by rfl) ?_; dsimp only)); refine box_event ?hg (N := 13) ?hd (cs := #[.string (⟨#[]⟩ : ByteArray), .int .u64 0, .int .i64 0, .string (⟨#[]⟩ : ByteArray), .string (⟨#[]⟩ : ByteArray)]) (t := 28) ?hr ?_; (case hd => rfl); (case hg => rfl); (case hr => first | (go_simp; done) | (go_simp; rfl)); intro gb356 hg w28 hbox hb; have n0_ := Aside0.mk (Kd.R_below (by (with_reducible repeat (first | apply Kd.R_alloc | apply Kd.R_drewN | apply Kd.R_drew)); exact HO349.out) hb); have n1_ := Aside0.mk (below_step (by repeat (first | (with_reducible first | exact HB.out | apply below_alloc | apply pw_below_drewN | apply below_drew1) | exact HB.out)) hb); have n2_ := Aside0.mk (hbox); have n3_ := Aside0.mk ((by rw [hg]; exact (below_size (by repeat (first | (with_reducible first | exact HB.out | apply below_alloc | apply pw_below_drewN | apply below_drew1) | exact HB.out))) : w.heap.size ≤ gb356)); have n4_ := Aside0.mk ((by rw [hg]; exact (below_size (by repeat (first | (with_reducible first | exact HB.out | apply below_alloc | apply pw_below_drewN | apply below_drew1) | exact HB.out))) : w.heap.size ≤ gb356)); clear HO349; clear HB; have HO349 := n0_; have HB := n1_; have BK356 := n2_; have GW356 := n3_; have GE356 := n4_; clear n0_ n1_ n2_ n3_ n4_; clear hb hbox hg; have hcz29_0 : w28.cell? ⟨gb356, 0, none⟩ = some (.string (⟨#[]⟩ : ByteArray)) := (blk_cell BK356.out 0).trans rfl; have hcz29_1 : w28.cell? ⟨gb356, 1, none⟩ = some (.int .u64 0) := (blk_cell BK356.out 1).trans rfl; have hcz29_2 : w28.cell? ⟨gb356, 2, none⟩ = some (.int .i64 0) := (blk_cell BK356.out 2).trans rfl; have hcz29_3 : w28.cell? ⟨gb356, 3, none⟩ = some (.string (⟨#[]⟩ : ByteArray)) := (blk_cell BK356.out 3).trans rfl; have hcz29_4 : w28.cell? ⟨gb356, 4, none⟩ = some (.string (⟨#[]⟩ : ByteArray)) := (blk_cell BK356.out 4).trans rfl; have hfz29_0 := blk_frozen BK356.out 0; have hfz29_1 := blk_frozen BK356.out 1; have hfz29_2 := blk_frozen BK356.out 2; have hfz29_3 := blk_frozen BK356.out 3; have hfz29_4 := blk_frozen BK356.out 4) | ((with_reducible refine gate_callee (f := 19) rfl ?_); refine goesL_ (some 40) rfl rfl Tryd.func19 (by kernel_rfl) rfl #[.agg #[.string t350, .int .u64 t351, .int .i64 t352, .string t353, .string t354]] rfl (by (try simp only [List.map_toArray, List.map_cons, List.map_nil]); first | done | rfl | (simp only [List.length_drop, List.length_take]; rfl)) ?_; (with_reducible refine (fresh_Put.calls k t350 t351 t352 t353 t354 t357 t358 _ A12.out ?sidev).mono ?_); (case sidev => exact Laid8.below HV.out (by repeat (first | (with_reducible first | exact HB.out | apply below_alloc | apply pw_below_drewN | apply below_drew1 | refine below_set ?_ GE356.out) | exact HB.out))); rintro e w30 ⟨rfl, hb⟩; refine ⟨_, rfl, ?_⟩; have n0_ := Aside0.mk (Kd.R_below (by (with_reducible repeat (first | apply Kd.R_alloc | apply Kd.R_drewN | apply Kd.R_drew)); exact (Kd.R_mono (Kd.R_far (p := ⟨gb356, 4, none⟩) (Kd.R_far (p := ⟨gb356, 3, none⟩) (Kd.R_far (p := ⟨gb356, 2, none⟩) (Kd.R_far (p := ⟨gb356, 1, none⟩) (Kd.R_far (p := ⟨gb356, 0, none⟩) (Kd.R_types HO349.out BK356.out (by decide)) (fun _ hk => hk.2) (.string t350)) (fun _ hk => hk.2) (.int .u64 t351)) (fun _ hk => hk.2) (.int .i64 t352)) (fun _ hk => hk.2) (.string t353)) (fun _ hk => hk.2) (.string t354)) (fun _ h_ => h_.1))) hb); have n1_ := Aside0.mk (blk_below (g := gb356) (o := .cells #[.string t350, .int .u64 t351, .int .i64 t352, .string t353, .string t354] 28 (0, 0)) (by (with_reducible repeat (first | refine blk_drewN ?_ _ | refine blk_drew ?_ | refine blk_alloc ?_ _)); refine blk_put (cs := #[.string t350, .int .u64 t351, .int .i64 t352, .string t353, .string (⟨#[]⟩ : ByteArray)]) ?_ 4 _ rfl; (with_reducible repeat (first | refine blk_drewN ?_ _ | refine blk_drew ?_ | refine blk_alloc ?_ _)); refine blk_put (cs := #[.string t350, .int .u64 t351, .int .i64 t352, .string (⟨#[]⟩ : ByteArray), .string (⟨#[]⟩ : ByteArray)]) ?_ 3 _ rfl; (with_reducible repeat (first | refine blk_drewN ?_ _ | refine blk_drew ?_ | refine blk_alloc ?_ _)); refine blk_put (cs := #[.string t350, .int .u64 t351, .int .i64 0, .string (⟨#[]⟩ : ByteArray), .string (⟨#[]⟩ : ByteArray)]) ?_ 2 _ rfl; (with_reducible repeat (first | refine blk_drewN ?_ _ | refine blk_drew ?_ | refine blk_alloc ?_ _)); refine blk_put (cs := #[.string t350, .int .u64 0, .int .i64 0, .string (⟨#[]⟩ : ByteArray), .string (⟨#[]⟩ : ByteArray)]) ?_ 1 _ rfl; (with_reducible repeat (first | refine blk_drewN ?_ _ | refine blk_drew ?_ | refine blk_alloc ?_ _)); refine blk_put (cs := #[.string (⟨#[]⟩ : ByteArray), .int .u64 0, .int .i64 0, .string (⟨#[]⟩ : ByteArray), .string (⟨#[]⟩ : ByteArray)]) ?_ 0 _ rfl; (with_reducible repeat (first | refine blk_drewN ?_ _ | refine blk_drew ?_ | refine blk_alloc ?_ _)); exact BK356.out) hb); have n2_ := Aside0.mk (below_step (by repeat (first | (with_reducible first | exact HB.out | apply below_alloc | apply pw_below_drewN | apply below_drew1 | refine below_set ?_ GE356.out) | exact HB.out)) hb); clear HO349; clear BK356; clear HB; have HO349 := n0_; have BK356 := n1_; have HB := n2_; clear n0_ n1_ n2_; (try clear hb); (try clear hb2); (try clear hk); (try clear hi)) | ((with_reducible refine gate_callee (f := 20) rfl ?_); refine goesL_ (some 45) rfl rfl Tryd.func20 (by kernel_rfl) rfl #[.string t357] rfl (by (try simp only [List.map_toArray, List.map_cons, List.map_nil]); first | done | rfl | (simp only [List.length_drop, List.length_take]; rfl)) ?_; (with_reducible refine (fresh_Take.calls k t357 t359 t360 t361 t362 t363 t364 _ A13.out ?sidev).mono ?_); (case sidev => exact Laid8.below HV.out (by repeat (first | (with_reducible first | exact HB.out | apply below_alloc | apply pw_below_drewN | apply below_drew1 | refine below_set ?_ GE356.out) | exact HB.out))); rintro e w31 ⟨rfl, hb⟩; refine ⟨_, rfl, ?_⟩; have n0_ := Aside0.mk (Kd.R_below (by (with_reducible repeat (first | apply Kd.R_alloc | apply Kd.R_drewN | apply Kd.R_drew)); exact HO349.out) hb); have n1_ := Aside0.mk (blk_below (g := gb356) (o := .cells #[.string t350, .int .u64 t351, .int .i64 t352, .string t353, .string t354] 28 (0, 0)) (by (with_reducible repeat (first | refine blk_drewN ?_ _ | refine blk_drew ?_ | refine blk_alloc ?_ _)); exact BK356.out) hb); have n2_ := Aside0.mk (below_step (by repeat (first | (with_reducible first | exact HB.out | apply below_alloc | apply pw_below_drewN | apply below_drew1 | refine below_set ?_ GE356.out) | exact HB.out)) hb); clear HO349; clear BK356; clear HB; have HO349 := n0_; have BK356 := n1_; have HB := n2_; clear n0_ n1_ n2_; (try clear hb); (try clear hb2); (try clear hk); (try clear hi)) | ((with_reducible refine gate_dst (N := 17) rfl ?_); (try (refine gate_guard (by rfl) ?_; dsimp only)); refine box_event ?hg (N := 17) ?hd (cs := #[.string (⟨#[]⟩ : ByteArray), .int .u64 0, .int .i64 0, .string (⟨#[]⟩ : ByteArray), .string (⟨#[]⟩ : ByteArray)]) (t := 28) ?hr ?_; (case hd => rfl); (case hg => rfl); (case hr => first | (go_simp; done) | (go_simp; rfl)); intro gb365 hg w32 hbox hb; have n0_ := Aside0.mk (Kd.R_below (by (with_reducible repeat (first | apply Kd.R_alloc | apply Kd.R_drewN | apply Kd.R_drew)); exact HO349.out) hb); have n1_ := Aside0.mk (blk_below (g := gb356) (o := .cells #[.string t350, .int .u64 t351, .int .i64 t352, .string t353, .string t354] 28 (0, 0)) (by (with_reducible repeat (first | refine blk_drewN ?_ _ | refine blk_drew ?_ | refine blk_alloc ?_ _)); exact BK356.out) hb); have n2_ := Aside0.mk (below_step (by repeat (first | (with_reducible first | exact HB.out | apply below_alloc | apply pw_below_drewN | apply below_drew1 | refine below_set ?_ GE356.out) | exact HB.out)) hb); have n3_ := Aside0.mk (hbox); have n4_ := Aside0.mk ((by rw [hg]; exact (below_size (by repeat (first | (with_reducible first | exact HB.out | apply below_alloc | apply pw_below_drewN | apply below_drew1 | refine below_set ?_ GE356.out) | exact HB.out))) : w.heap.size ≤ gb365)); have n5_ := Aside0.mk ((by rw [hg]; exact (below_size (by repeat (first | (with_reducible first | exact HB.out | apply below_alloc | apply pw_below_drewN | apply below_drew1 | refine below_set ?_ GE356.out) | exact HB.out))) : w.heap.size ≤ gb365)); have n6_ := Aside0.mk ((by rw [hg]; exact Nat.ne_of_lt (blk_lt (g := gb356) (o := .cells #[.string t350, .int .u64 t351, .int .i64 t352, .string t353, .string t354] 28 (0, 0)) (by (with_reducible repeat (first | refine blk_drewN ?_ _ | refine blk_drew ?_ | refine blk_alloc ?_ _)); exact BK356.out)) : gb356 ≠ gb365)); have n7_ := Aside0.mk ((by rw [hg]; exact Nat.ne_of_gt (blk_lt (g := gb356) (o := .cells #[.string t350, .int .u64 t351, .int .i64 t352, .string t353, .string t354] 28 (0, 0)) (by (with_reducible repeat (first | refine blk_drewN ?_ _ | refine blk_drew ?_ | refine blk_alloc ?_ _)); exact BK356.out)) : gb365 ≠ gb356)); clear HO349; clear BK356; clear HB; have HO349 := n0_; have BK356 := n1_; have HB := n2_; have BK365 := n3_; have GW365 := n4_; have GE365 := n5_; have NB356_365 := n6_; have NB365_356 := n7_; clear n0_ n1_ n2_ n3_ n4_ n5_ n6_ n7_; clear hb hbox hg; have hnb33 := NB365_356.out; have hnc33 := NB356_365.out; have hcz34_0 : w32.cell? ⟨gb365, 0, none⟩ = some (.string (⟨#[]⟩ : ByteArray)) := (blk_cell BK365.out 0).trans rfl; have hcz34_1 : w32.cell? ⟨gb365, 1, none⟩ = some (.int .u64 0) := (blk_cell BK365.out 1).trans rfl; have hcz34_2 : w32.cell? ⟨gb365, 2, none⟩ = some (.int .i64 0) := (blk_cell BK365.out 2).trans rfl; have hcz34_3 : w32.cell? ⟨gb365, 3, none⟩ = some (.string (⟨#[]⟩ : ByteArray)) := (blk_cell BK365.out 3).trans rfl; have hcz34_4 : w32.cell? ⟨gb365, 4, none⟩ = some (.string (⟨#[]⟩ : ByteArray)) := (blk_cell BK365.out 4).trans rfl; have hfz34_0 := blk_frozen BK365.out 0; have hfz34_1 := blk_frozen BK365.out 1; have hfz34_2 := blk_frozen BK365.out 2; have hfz34_3 := blk_frozen BK365.out 3; have hfz34_4 := blk_frozen BK365.out 4))
        have n0_ : Aside0 (Kd.R Kd.string 9 (((((w32.setCell ⟨gb365, 0, none⟩ (.string t359)).setCell ⟨gb365, 1, none⟩ (.int .u64 t360)).setCell ⟨gb365, 2, none⟩ (.int .i64 t361)).setCell ⟨gb365, 3, none⟩ (.string t362)).setCell ⟨gb365, 4, none⟩ (.string t363)) w.heap.size (fun _ => True) (.slice Ao26 t347.length co26) t347) := ⟨by (with_reducible repeat (first | apply Kd.R_alloc | apply Kd.R_drewN | apply Kd.R_drew)); exact Kd.R_mono (Kd.R_far (p := ⟨gb365, 4, none⟩) (Kd.R_far (p := ⟨gb365, 3, none⟩) (Kd.R_far (p := ⟨gb365, 2, none⟩) (Kd.R_far (p := ⟨gb365, 1, none⟩) (Kd.R_far (p := ⟨gb365, 0, none⟩) (Kd.R_types HO349.out BK365.out (by decide)) (fun _ hk => hk.2) (.string t359)) (fun _ hk => hk.2) (.int .u64 t360)) (fun _ hk => hk.2) (.int .i64 t361)) (fun _ hk => hk.2) (.string t362)) (fun _ hk => hk.2) (.string t363)) (fun _ hk => trivial)⟩
        have n1_ : Aside0 ((((((w32.setCell ⟨gb365, 0, none⟩ (.string t359)).setCell ⟨gb365, 1, none⟩ (.int .u64 t360)).setCell ⟨gb365, 2, none⟩ (.int .i64 t361)).setCell ⟨gb365, 3, none⟩ (.string t362)).setCell ⟨gb365, 4, none⟩ (.string t363)).heap[gb356]? = some (.cells #[.string t350, .int .u64 t351, .int .i64 t352, .string t353, .string t354] 28 (0, 0))) := ⟨by (with_reducible repeat (first | refine blk_drewN ?_ _ | refine blk_drew ?_ | refine blk_alloc ?_ _)); refine blk_far ?_ NB356_365.out _; (with_reducible repeat (first | refine blk_drewN ?_ _ | refine blk_drew ?_ | refine blk_alloc ?_ _)); refine blk_far ?_ NB356_365.out _; (with_reducible repeat (first | refine blk_drewN ?_ _ | refine blk_drew ?_ | refine blk_alloc ?_ _)); refine blk_far ?_ NB356_365.out _; (with_reducible repeat (first | refine blk_drewN ?_ _ | refine blk_drew ?_ | refine blk_alloc ?_ _)); refine blk_far ?_ NB356_365.out _; (with_reducible repeat (first | refine blk_drewN ?_ _ | refine blk_drew ?_ | refine blk_alloc ?_ _)); refine blk_far ?_ NB356_365.out _; (with_reducible repeat (first | refine blk_drewN ?_ _ | refine blk_drew ?_ | refine blk_alloc ?_ _)); exact BK356.out⟩
        have n2_ : Aside0 ((((((w32.setCell ⟨gb365, 0, none⟩ (.string t359)).setCell ⟨gb365, 1, none⟩ (.int .u64 t360)).setCell ⟨gb365, 2, none⟩ (.int .i64 t361)).setCell ⟨gb365, 3, none⟩ (.string t362)).setCell ⟨gb365, 4, none⟩ (.string t363)).heap[gb365]? = some (.cells #[.string t359, .int .u64 t360, .int .i64 t361, .string t362, .string t363] 28 (0, 0))) := ⟨by (with_reducible repeat (first | refine blk_drewN ?_ _ | refine blk_drew ?_ | refine blk_alloc ?_ _)); refine blk_put (cs := #[.string t359, .int .u64 t360, .int .i64 t361, .string t362, .string (⟨#[]⟩ : ByteArray)]) ?_ 4 _ rfl; (with_reducible repeat (first | refine blk_drewN ?_ _ | refine blk_drew ?_ | refine blk_alloc ?_ _)); refine blk_put (cs := #[.string t359, .int .u64 t360, .int .i64 t361, .string (⟨#[]⟩ : ByteArray), .string (⟨#[]⟩ : ByteArray)]) ?_ 3 _ rfl; (with_reducible repeat (first | refine blk_drewN ?_ _ | refine blk_drew ?_ | refine blk_alloc ?_ _)); refine blk_put (cs := #[.string t359, .int .u64 t360, .int .i64 0, .string (⟨#[]⟩ : ByteArray), .string (⟨#[]⟩ : ByteArray)]) ?_ 2 _ rfl; (with_reducible repeat (first | refine blk_drewN ?_ _ | refine blk_drew ?_ | refine blk_alloc ?_ _)); refine blk_put (cs := #[.string t359, .int .u64 0, .int .i64 0, .string (⟨#[]⟩ : ByteArray), .string (⟨#[]⟩ : ByteArray)]) ?_ 1 _ rfl; (with_reducible repeat (first | refine blk_drewN ?_ _ | refine blk_drew ?_ | refine blk_alloc ?_ _)); refine blk_put (cs := #[.string (⟨#[]⟩ : ByteArray), .int .u64 0, .int .i64 0, .string (⟨#[]⟩ : ByteArray), .string (⟨#[]⟩ : ByteArray)]) ?_ 0 _ rfl; (with_reducible repeat (first | refine blk_drewN ?_ _ | refine blk_drew ?_ | refine blk_alloc ?_ _)); exact BK365.out⟩
        have n3_ : Aside0 (Below w.heap.size w (((((w32.setCell ⟨gb365, 0, none⟩ (.string t359)).setCell ⟨gb365, 1, none⟩ (.int .u64 t360)).setCell ⟨gb365, 2, none⟩ (.int .i64 t361)).setCell ⟨gb365, 3, none⟩ (.string t362)).setCell ⟨gb365, 4, none⟩ (.string t363))) := ⟨by repeat (first | (with_reducible first | exact HB.out | apply below_alloc | apply pw_below_drewN | apply below_drew1 | refine below_set ?_ GE356.out | refine below_set ?_ GE365.out) | exact HB.out)⟩
        (try clear HO349)
        (try clear BK356)
        (try clear BK365)
        (try clear HB)
        generalize (((((w32.setCell ⟨gb365, 0, none⟩ (.string t359)).setCell ⟨gb365, 1, none⟩ (.int .u64 t360)).setCell ⟨gb365, 2, none⟩ (.int .i64 t361)).setCell ⟨gb365, 3, none⟩ (.string t362)).setCell ⟨gb365, 4, none⟩ (.string t363)) = w35 at n0_ n1_ n2_ n3_ ⊢
        have HO349 := n0_
        have BK356 := n1_
        have BK365 := n2_
        have HB := n3_
        clear n0_ n1_ n2_ n3_
        have n0_ := Aside0.mk (Kd.R_drew HO349.out)
        have n1_ := Aside0.mk (blk_drew BK356.out)
        have n2_ := Aside0.mk (blk_drew BK365.out)
        have n3_ := Aside0.mk (below_drew1 HB.out)
        clear HO349
        clear BK356
        clear BK365
        clear HB
        have HO349 := n0_
        have BK356 := n1_
        have BK365 := n2_
        have HB := n3_
        clear n0_ n1_ n2_ n3_
        refine start_ (n := 29) (S := fun w' => w'.cell? ⟨gb365, 0, none⟩ = some (.string t359) ∧ w'.cell? ⟨gb365, 1, none⟩ = some (.int .u64 t360) ∧ w'.cell? ⟨gb365, 2, none⟩ = some (.int .i64 t361) ∧ w'.cell? ⟨gb365, 3, none⟩ = some (.string t362) ∧ w'.cell? ⟨gb365, 4, none⟩ = some (.string t363) ∧ w'.cell? ⟨gb356, 0, none⟩ = some (.string t350) ∧ w'.cell? ⟨gb356, 1, none⟩ = some (.int .u64 t351) ∧ w'.cell? ⟨gb356, 2, none⟩ = some (.int .i64 t352) ∧ w'.cell? ⟨gb356, 3, none⟩ = some (.string t353) ∧ w'.cell? ⟨gb356, 4, none⟩ = some (.string t354)) (ds := []) #[false, false, false, false, false, false, false, false, false, false, false, false, false, false, false, false, false, false, false, false, false, false, false, false, false, false, false, false, false] (by kernel_rfl) rfl rfl ⟨(blk_cell BK365.out 0).trans rfl, (blk_cell BK365.out 1).trans rfl, (blk_cell BK365.out 2).trans rfl, (blk_cell BK365.out 3).trans rfl, (blk_cell BK365.out 4).trans rfl, (blk_cell BK356.out 0).trans rfl, (blk_cell BK356.out 1).trans rfl, (blk_cell BK356.out 2).trans rfl, (blk_cell BK356.out 3).trans rfl, (blk_cell BK356.out 4).trans rfl⟩ (fun hHeld => ?_); refine with_tabW letterlocklaw11_FreshChecks.tab8 letterlocklaw11_FreshChecks.bits8 (fun HT_ HW_ => ?_)
        generalize w35.drew = w36 at HO349 BK356 BK365 HB hHeld ⊢
        refine pure_ (i := 0) (N := some 48) (v := ?_) (a' := ?_) #[true, false, false, false, false, false, false, false, false, false, false, false, false, false, false, false, false, false, false, false, false, false, false, false, false, false, false, false, false] rfl rfl (any_of HT_.out (by kernel_rfl)) (fun _ _ _ h => h) (Or.inl ⟨by rfl, ?_⟩) ?_ ?_
        rotate_left
        ·intro w'
         go_simp
         with_reducible rfl
        rotate_left
        ·simp only [Act.put, List.setIfInBounds_toArray, List.set_cons_zero, List.set_cons_succ, i64_w, i32_w]
         rfl
        refine pure_ (i := 1) (N := some 49) (v := ?_) (a' := ?_) #[true, true, false, false, false, false, false, false, false, false, false, false, false, false, false, false, false, false, false, false, false, false, false, false, false, false, false, false, false] rfl rfl (any_of HT_.out (by kernel_rfl)) (fun _ _ _ h => h) (Or.inl ⟨by rfl, ?_⟩) ?_ ?_
        rotate_left
        ·intro w'
         go_simp
         with_reducible rfl
        rotate_left
        ·simp only [Act.put, List.setIfInBounds_toArray, List.set_cons_zero, List.set_cons_succ, i64_w, i32_w]
         rfl
        refine pure_ (i := 2) (N := some 50) (v := ?_) (a' := ?_) #[true, true, true, false, false, false, false, false, false, false, false, false, false, false, false, false, false, false, false, false, false, false, false, false, false, false, false, false, false] rfl rfl (any_of HT_.out (by kernel_rfl)) (fun _ _ _ h => h) (Or.inl ⟨by rfl, ?_⟩) ?_ ?_
        rotate_left
        ·intro w'
         go_simp
         with_reducible rfl
        rotate_left
        ·simp only [Act.put, List.setIfInBounds_toArray, List.set_cons_zero, List.set_cons_succ, i64_w, i32_w]
         rfl
        refine pure_ (i := 3) (N := some 51) (v := ?_) (a' := ?_) #[true, true, true, true, false, false, false, false, false, false, false, false, false, false, false, false, false, false, false, false, false, false, false, false, false, false, false, false, false] rfl rfl (any_of HT_.out (by kernel_rfl)) (fun _ _ _ h => h) (Or.inl ⟨by rfl, ?_⟩) ?_ ?_
        rotate_left
        ·intro w'
         go_simp
         with_reducible rfl
        rotate_left
        ·simp only [Act.put, List.setIfInBounds_toArray, List.set_cons_zero, List.set_cons_succ, i64_w, i32_w]
         rfl
        refine pure_ (i := 4) (N := some 52) (v := ?_) (a' := ?_) #[true, true, true, true, true, false, false, false, false, false, false, false, false, false, false, false, false, false, false, false, false, false, false, false, false, false, false, false, false] rfl rfl (any_of HT_.out (by kernel_rfl)) (fun _ _ _ h => h) (Or.inl ⟨by rfl, ?_⟩) ?_ ?_
        rotate_left
        ·intro w'
         go_simp
         with_reducible rfl
        rotate_left
        ·simp only [Act.put, List.setIfInBounds_toArray, List.set_cons_zero, List.set_cons_succ, i64_w, i32_w]
         rfl
        refine pure_ (i := 5) (N := some 53) (v := ?_) (a' := ?_) #[true, true, true, true, true, true, false, false, false, false, false, false, false, false, false, false, false, false, false, false, false, false, false, false, false, false, false, false, false] rfl rfl (any_of HT_.out (by kernel_rfl)) (fun _ _ _ h => h) (Or.inl ⟨by rfl, ?_⟩) ?_ ?_
        rotate_left
        ·intro w'
         go_simp
         with_reducible rfl
        rotate_left
        ·simp only [Act.put, List.setIfInBounds_toArray, List.set_cons_zero, List.set_cons_succ, i64_w, i32_w]
         rfl
        refine pure_ (i := 6) (N := some 54) (v := ?_) (a' := ?_) #[true, true, true, true, true, true, true, false, false, false, false, false, false, false, false, false, false, false, false, false, false, false, false, false, false, false, false, false, false] rfl rfl (any_of HT_.out (by kernel_rfl)) (fun _ _ _ h => h) (Or.inl ⟨by rfl, ?_⟩) ?_ ?_
        rotate_left
        ·intro w'
         go_simp
         with_reducible rfl
        rotate_left
        ·simp only [Act.put, List.setIfInBounds_toArray, List.set_cons_zero, List.set_cons_succ, i64_w, i32_w]
         rfl
        refine pure_ (i := 7) (N := some 55) (v := ?_) (a' := ?_) #[true, true, true, true, true, true, true, true, false, false, false, false, false, false, false, false, false, false, false, false, false, false, false, false, false, false, false, false, false] rfl rfl (any_of HT_.out (by kernel_rfl)) (fun _ _ _ h => h) (Or.inl ⟨by rfl, ?_⟩) ?_ ?_
        rotate_left
        ·intro w'
         go_simp
         with_reducible rfl
        rotate_left
        ·simp only [Act.put, List.setIfInBounds_toArray, List.set_cons_zero, List.set_cons_succ, i64_w, i32_w]
         rfl
        refine pure_ (i := 8) (N := some 56) (v := ?_) (a' := ?_) #[true, true, true, true, true, true, true, true, true, false, false, false, false, false, false, false, false, false, false, false, false, false, false, false, false, false, false, false, false] rfl rfl (any_of HT_.out (by kernel_rfl)) (fun _ _ _ h => h) (Or.inl ⟨by rfl, ?_⟩) ?_ ?_
        rotate_left
        ·intro w'
         go_simp
         with_reducible rfl
        rotate_left
        ·simp only [Act.put, List.setIfInBounds_toArray, List.set_cons_zero, List.set_cons_succ, i64_w, i32_w]
         rfl
        refine pure_ (i := 9) (N := some 57) (v := ?_) (a' := ?_) #[true, true, true, true, true, true, true, true, true, true, false, false, false, false, false, false, false, false, false, false, false, false, false, false, false, false, false, false, false] rfl rfl (any_of HT_.out (by kernel_rfl)) (fun _ _ _ h => h) (Or.inl ⟨by rfl, ?_⟩) ?_ ?_
        rotate_left
        ·intro w'
         go_simp
         with_reducible rfl
        rotate_left
        ·simp only [Act.put, List.setIfInBounds_toArray, List.set_cons_zero, List.set_cons_succ, i64_w, i32_w]
         rfl
        refine pure_ (i := 10) (N := some 58) (v := ?_) (a' := ?_) #[true, true, true, true, true, true, true, true, true, true, true, false, false, false, false, false, false, false, false, false, false, false, false, false, false, false, false, false, false] rfl rfl (any_of HT_.out (by kernel_rfl)) (fun _ _ _ h => h) (Or.inl ⟨by rfl, ?_⟩) ?_ ?_
        rotate_left
        ·intro w'
         go_simp
         with_reducible rfl
        rotate_left
        ·simp only [Act.put, List.setIfInBounds_toArray, List.set_cons_zero, List.set_cons_succ, i64_w, i32_w]
         rfl
        refine take_ (i := 11) (N := some 59) (v := ?_) (a' := ?_) #[true, true, true, true, true, true, true, true, true, true, true, true, false, false, false, false, false, false, false, false, false, false, false, false, false, false, false, false, false] rfl rfl (take_ofW HT_.out HW_.out (by kernel_rfl)) (fun _ _ _ h => h) (Or.inl ⟨by rfl, ?_⟩) hHeld ?_ ?_
        rotate_left
        ·rintro w' ⟨s0, s1, s2, s3, s4, s5, s6, s7, s8, s9⟩
         go_simp
         with_reducible rfl
        rotate_left
        ·simp only [Act.put, List.setIfInBounds_toArray, List.set_cons_zero, List.set_cons_succ, i64_w, i32_w]
         rfl
        refine take_ (i := 12) (N := some 60) (v := ?_) (a' := ?_) #[true, true, true, true, true, true, true, true, true, true, true, true, true, false, false, false, false, false, false, false, false, false, false, false, false, false, false, false, false] rfl rfl (take_ofW HT_.out HW_.out (by kernel_rfl)) (fun _ _ _ h => h) (Or.inl ⟨by rfl, ?_⟩) hHeld ?_ ?_
        rotate_left
        ·rintro w' ⟨s0, s1, s2, s3, s4, s5, s6, s7, s8, s9⟩
         go_simp
         with_reducible rfl
        rotate_left
        ·simp only [Act.put, List.setIfInBounds_toArray, List.set_cons_zero, List.set_cons_succ, i64_w, i32_w]
         rfl
        refine pure_ (i := 13) (N := some 61) (v := ?_) (a' := ?_) #[true, true, true, true, true, true, true, true, true, true, true, true, true, true, false, false, false, false, false, false, false, false, false, false, false, false, false, false, false] rfl rfl (any_of HT_.out (by kernel_rfl)) (fun _ _ _ h => h) (Or.inl ⟨by rfl, ?_⟩) ?_ ?_
        rotate_left
        ·intro w'
         go_simp
         with_reducible rfl
        rotate_left
        ·simp only [Act.put, List.setIfInBounds_toArray, List.set_cons_zero, List.set_cons_succ, i64_w, i32_w]
         rfl
        refine pure_ (i := 14) (N := some 62) (v := ?_) (a' := ?_) #[true, true, true, true, true, true, true, true, true, true, true, true, true, true, true, false, false, false, false, false, false, false, false, false, false, false, false, false, false] rfl rfl (any_of HT_.out (by kernel_rfl)) (fun _ _ _ h => h) (Or.inl ⟨by rfl, ?_⟩) ?_ ?_
        rotate_left
        ·intro w'
         go_simp
         with_reducible rfl
        rotate_left
        ·simp only [Act.put, List.setIfInBounds_toArray, List.set_cons_zero, List.set_cons_succ, i64_w, i32_w]
         rfl
        refine pure_ (i := 15) (N := some 63) (v := ?_) (a' := ?_) #[true, true, true, true, true, true, true, true, true, true, true, true, true, true, true, true, false, false, false, false, false, false, false, false, false, false, false, false, false] rfl rfl (any_of HT_.out (by kernel_rfl)) (fun _ _ _ h => h) (Or.inl ⟨by rfl, ?_⟩) ?_ ?_
        rotate_left
        ·intro w'
         go_simp
         with_reducible rfl
        rotate_left
        ·simp only [Act.put, List.setIfInBounds_toArray, List.set_cons_zero, List.set_cons_succ, i64_w, i32_w]
         rfl
        refine pure_ (i := 16) (N := some 64) (v := ?_) (a' := ?_) #[true, true, true, true, true, true, true, true, true, true, true, true, true, true, true, true, true, false, false, false, false, false, false, false, false, false, false, false, false] rfl rfl (any_of HT_.out (by kernel_rfl)) (fun _ _ _ h => h) (Or.inl ⟨by rfl, ?_⟩) ?_ ?_
        rotate_left
        ·intro w'
         go_simp
         with_reducible rfl
        rotate_left
        ·simp only [Act.put, List.setIfInBounds_toArray, List.set_cons_zero, List.set_cons_succ, i64_w, i32_w]
         rfl
        refine pure_ (i := 18) (N := some 66) (v := ?_) (a' := ?_) #[true, true, true, true, true, true, true, true, true, true, true, true, true, true, true, true, true, false, true, false, false, false, false, false, false, false, false, false, false] rfl rfl (any_of HT_.out (by kernel_rfl)) (fun _ _ _ h => h) (Or.inl ⟨by rfl, ?_⟩) ?_ ?_
        rotate_left
        ·intro w'
         go_simp
         with_reducible rfl
        rotate_left
        ·simp only [Act.put, List.setIfInBounds_toArray, List.set_cons_zero, List.set_cons_succ, i64_w, i32_w]
         rfl
        refine take_ (i := 17) (N := some 65) (v := ?_) (a' := ?_) #[true, true, true, true, true, true, true, true, true, true, true, true, true, true, true, true, true, true, true, false, false, false, false, false, false, false, false, false, false] rfl rfl (take_ofW HT_.out HW_.out (by kernel_rfl)) (fun _ _ _ h => h) (Or.inl ⟨by rfl, ?_⟩) hHeld ?_ ?_
        rotate_left
        ·rintro w' ⟨s0, s1, s2, s3, s4, s5, s6, s7, s8, s9⟩
         go_simp
         with_reducible rfl
        rotate_left
        ·simp only [Act.put, List.setIfInBounds_toArray, List.set_cons_zero, List.set_cons_succ, i64_w, i32_w]
         rfl
        refine one_ (i := 19) (N := some 67) #[true, true, true, true, true, true, true, true, true, true, true, true, true, true, true, true, true, true, true, true, false, false, false, false, false, false, false, false, false] rfl rfl (one_of HT_.out (by kernel_rfl)) (by decide) (fun K hK => ?_)
        refine goes_ Tryd.func9 (by kernel_rfl) rfl #[.slice A4 l4.length c4] (by rfl) rfl rfl (by (try simp only [List.map_toArray, List.map_cons, List.map_nil]); first | done | rfl | (simp only [List.length_drop, List.length_take]; rfl)) ?_
        with_reducible refine (letterlocklaw11_row.calls k _ _ l4 t366 _ ?side1 ?side2 A18.out).mono ?_
        (case side1 => repeat (first | exact (Kd.C_below HR4.out HB.out) | (with_reducible refine Kd.C_alloc ?_ _) | (with_reducible refine Kd.C_drewN ?_ _) | (with_reducible refine Kd.C_drew ?_)))
        (case side2 => exact HC4.out)
        rintro e w37 ⟨v367, rfl, ho0, hb⟩
        refine ⟨_, rfl, ?_⟩
        have n0_ := Aside0.mk (Kd.R_elder' (by (with_reducible repeat (first | apply Kd.R_alloc | apply Kd.R_drewN | apply Kd.R_drew)); exact HO349.out) (Kd.R_base ho0) hb)
        have n1_ := Aside0.mk (Kd.R_lower (Kd.R_new' ho0 (Kd.R_lt (by (with_reducible repeat (first | apply Kd.R_alloc | apply Kd.R_drewN | apply Kd.R_drew)); exact HO349.out))) (below_size (by repeat (first | (with_reducible first | exact HB.out | apply below_alloc | apply pw_below_drewN | apply below_drew1 | refine below_set ?_ GE356.out | refine below_set ?_ GE365.out) | exact HB.out))))
        have n2_ := Aside0.mk (blk_below (g := gb356) (o := .cells #[.string t350, .int .u64 t351, .int .i64 t352, .string t353, .string t354] 28 (0, 0)) (by (with_reducible repeat (first | refine blk_drewN ?_ _ | refine blk_drew ?_ | refine blk_alloc ?_ _)); exact BK356.out) hb)
        have n3_ := Aside0.mk (blk_below (g := gb365) (o := .cells #[.string t359, .int .u64 t360, .int .i64 t361, .string t362, .string t363] 28 (0, 0)) (by (with_reducible repeat (first | refine blk_drewN ?_ _ | refine blk_drew ?_ | refine blk_alloc ?_ _)); exact BK365.out) hb)
        have n4_ := Aside0.mk (below_step (by repeat (first | (with_reducible first | exact HB.out | apply below_alloc | apply pw_below_drewN | apply below_drew1 | refine below_set ?_ GE356.out | refine below_set ?_ GE365.out) | exact HB.out)) hb)
        clear HO349
        clear BK356
        clear BK365
        clear HB
        have HO349 := n0_
        have HO368 := n1_
        have BK356 := n2_
        have BK365 := n3_
        have HB := n4_
        clear n0_ n1_ n2_ n3_ n4_
        (try clear hb)
        (try clear hb2)
        (try clear hk)
        (try clear hi)
        (try clear ho0)
        obtain ⟨Ao38, co38, eo38⟩ := Kd.R_slice HO368.out
        (first | subst eo38 | (injection eo38 with f1_ f2_ f3_; have f4_ := f1_.symm; have f5_ := f3_.symm; clear f1_ f2_ f3_; subst f4_; subst f5_))
        refine hK.out _ _ ⟨(blk_cell BK365.out 0).trans rfl, (blk_cell BK365.out 1).trans rfl, (blk_cell BK365.out 2).trans rfl, (blk_cell BK365.out 3).trans rfl, (blk_cell BK365.out 4).trans rfl, (blk_cell BK356.out 0).trans rfl, (blk_cell BK356.out 1).trans rfl, (blk_cell BK356.out 2).trans rfl, (blk_cell BK356.out 3).trans rfl, (blk_cell BK356.out 4).trans rfl⟩ (fun hHeld => ?_)
        clear hK K
        refine norm_ (a' := ?_) ?_ ?_
        rotate_left
        ·show Act.put _ (some 67) _ = _
         simp only [Act.put, List.setIfInBounds_toArray, List.set_cons_zero, List.set_cons_succ, i64_w, i32_w]
         rfl
        refine pure_ (i := 20) (N := some 68) (v := ?_) (a' := ?_) #[true, true, true, true, true, true, true, true, true, true, true, true, true, true, true, true, true, true, true, true, true, false, false, false, false, false, false, false, false] rfl rfl (any_of HT_.out (by kernel_rfl)) (fun _ _ _ h => h) (Or.inl ⟨by rfl, ?_⟩) ?_ ?_
        rotate_left
        ·intro w'
         go_simp
         with_reducible rfl
        rotate_left
        ·simp only [Act.put, List.setIfInBounds_toArray, List.set_cons_zero, List.set_cons_succ, i64_w, i32_w]
         rfl
        refine pure_ (i := 21) (N := some 69) (v := ?_) (a' := ?_) #[true, true, true, true, true, true, true, true, true, true, true, true, true, true, true, true, true, true, true, true, true, true, false, false, false, false, false, false, false] rfl rfl (any_of HT_.out (by kernel_rfl)) (fun _ _ _ h => h) (Or.inl ⟨by rfl, ?_⟩) ?_ ?_
        rotate_left
        ·intro w'
         go_simp
         with_reducible rfl
        rotate_left
        ·simp only [Act.put, List.setIfInBounds_toArray, List.set_cons_zero, List.set_cons_succ, i64_w, i32_w]
         rfl
        refine pure_ (i := 22) (N := some 70) (v := ?_) (a' := ?_) #[true, true, true, true, true, true, true, true, true, true, true, true, true, true, true, true, true, true, true, true, true, true, true, false, false, false, false, false, false] rfl rfl (any_of HT_.out (by kernel_rfl)) (fun _ _ _ h => h) (Or.inl ⟨by rfl, ?_⟩) ?_ ?_
        rotate_left
        ·intro w'
         go_simp
         with_reducible rfl
        rotate_left
        ·simp only [Act.put, List.setIfInBounds_toArray, List.set_cons_zero, List.set_cons_succ, i64_w, i32_w]
         rfl
        refine pure_ (i := 23) (N := some 71) (v := ?_) (a' := ?_) #[true, true, true, true, true, true, true, true, true, true, true, true, true, true, true, true, true, true, true, true, true, true, true, true, false, false, false, false, false] rfl rfl (any_of HT_.out (by kernel_rfl)) (fun _ _ _ h => h) (Or.inl ⟨by rfl, ?_⟩) ?_ ?_
        rotate_left
        ·intro w'
         go_simp
         with_reducible rfl
        rotate_left
        ·simp only [Act.put, List.setIfInBounds_toArray, List.set_cons_zero, List.set_cons_succ, i64_w, i32_w]
         rfl
        refine pure_ (i := 24) (N := some 72) (v := ?_) (a' := ?_) #[true, true, true, true, true, true, true, true, true, true, true, true, true, true, true, true, true, true, true, true, true, true, true, true, true, false, false, false, false] rfl rfl (any_of HT_.out (by kernel_rfl)) (fun _ _ _ h => h) (Or.inl ⟨by rfl, ?_⟩) ?_ ?_
        rotate_left
        ·intro w'
         go_simp
         with_reducible rfl
        rotate_left
        ·simp only [Act.put, List.setIfInBounds_toArray, List.set_cons_zero, List.set_cons_succ, i64_w, i32_w]
         rfl
        refine pure_ (i := 26) (N := some 74) (v := ?_) (a' := ?_) #[true, true, true, true, true, true, true, true, true, true, true, true, true, true, true, true, true, true, true, true, true, true, true, true, true, false, true, false, false] rfl rfl (any_of HT_.out (by kernel_rfl)) (fun _ _ _ h => h) (Or.inl ⟨by rfl, ?_⟩) ?_ ?_
        rotate_left
        ·intro w'
         go_simp
         with_reducible rfl
        rotate_left
        ·simp only [Act.put, List.setIfInBounds_toArray, List.set_cons_zero, List.set_cons_succ, i64_w, i32_w]
         rfl
        refine take_ (i := 25) (N := some 73) (v := ?_) (a' := ?_) #[true, true, true, true, true, true, true, true, true, true, true, true, true, true, true, true, true, true, true, true, true, true, true, true, true, true, true, false, false] rfl rfl (take_ofW HT_.out HW_.out (by kernel_rfl)) (fun _ _ _ h => h) (Or.inl ⟨by rfl, ?_⟩) hHeld ?_ ?_
        rotate_left
        ·rintro w' ⟨s0, s1, s2, s3, s4, s5, s6, s7, s8, s9⟩
         go_simp
         with_reducible rfl
        rotate_left
        ·simp only [Act.put, List.setIfInBounds_toArray, List.set_cons_zero, List.set_cons_succ, i64_w, i32_w]
         rfl
        refine pure_ (i := 27) (N := some 75) (v := ?_) (a' := ?_) #[true, true, true, true, true, true, true, true, true, true, true, true, true, true, true, true, true, true, true, true, true, true, true, true, true, true, true, true, false] rfl rfl (any_of HT_.out (by kernel_rfl)) (fun _ _ _ h => h) (Or.inl ⟨by rfl, ?_⟩) ?_ ?_
        rotate_left
        ·intro w'
         go_simp
         with_reducible rfl
        rotate_left
        ·simp only [Act.put, List.setIfInBounds_toArray, List.set_cons_zero, List.set_cons_succ, i64_w, i32_w]
         rfl
        refine pure_ (i := 28) (N := some 76) (v := ?_) (a' := ?_) #[true, true, true, true, true, true, true, true, true, true, true, true, true, true, true, true, true, true, true, true, true, true, true, true, true, true, true, true, true] rfl rfl (any_of HT_.out (by kernel_rfl)) (fun _ _ _ h => h) (Or.inl ⟨by rfl, ?_⟩) ?_ ?_
        rotate_left
        ·intro w'
         go_simp
         with_reducible rfl
        rotate_left
        ·simp only [Act.put, List.setIfInBounds_toArray, List.set_cons_zero, List.set_cons_succ, i64_w, i32_w]
         rfl
        refine done_ (done_of HT_.out (by kernel_rfl)) ?_
        go_upto_region 11 with (fail)
        go_cut [86] (fun v86 wc => ∃ (kq : Nat) (x86_20 : Bool), v86 = .bool x86_20 ∧ Aside0 (letterlocklaw11_FreshChecks.j0 kq a0 a2 a3 t345 0 x86_20 t350 t351 t352 t353 t354 = some r) ∧ Aside0 (kq ≤ k) ∧ Aside0 (wc.heap[gb356]? = some (.cells #[.string t350, .int .u64 t351, .int .i64 t352, .string t353, .string t354] 28 (0, 0))) ∧ Aside0 (wc.heap[gb365]? = some (.cells #[.string t359, .int .u64 t360, .int .i64 t361, .string t362, .string t363] 28 (0, 0))) ∧ Aside0 (Below w.heap.size w wc))
        case first =>
         have H := HC21.out
         clear HC21
         by_cases c39 : a2 < a1
         ·rw [if_pos c39] at H
          have c39b0 : decide (a2 < a1) = true := decide_eq_true c39
          clear c39
          (first | rw [c39b0] | (simp only [i64_w, i32_w]; rw [c39b0]) | rw [c39b1] | skip)
          have H' := Aside0.mk H
          clear H
          go_wp2
          go_meet
          case rel => exact ⟨_, (true), (by first | rfl | (simp; done) | (simp [*]; done) | (simp; exact isEmpty_ne _)), H', ⟨by first | omega | exact Nat.le_refl _⟩, ⟨by (with_reducible repeat (first | refine blk_drewN ?_ _ | refine blk_drew ?_ | refine blk_alloc ?_ _)); exact BK356.out⟩, ⟨by (with_reducible repeat (first | refine blk_drewN ?_ _ | refine blk_drew ?_ | refine blk_alloc ?_ _)); exact BK365.out⟩, ⟨by repeat (first | (with_reducible first | exact HB.out | apply below_alloc | apply pw_below_drewN | apply below_drew1 | refine below_set ?_ GE356.out | refine below_set ?_ GE365.out) | exact HB.out)⟩⟩
         ·rw [if_neg c39] at H
          have c39b0 : decide (a2 < a1) = false := decide_eq_false c39
          clear c39
          (first | rw [c39b0] | (simp only [i64_w, i32_w]; rw [c39b0]) | rw [c39b1] | skip)
          have H' := Aside0.mk H
          clear H
          go_wp2
          go_meet
          case rel => exact ⟨_, (decide ((IntKind.u64.wrap (a2 - a1)) > a3)), (by first | rfl | (simp; done) | (simp [*]; done) | (simp; exact isEmpty_ne _)), H', ⟨by first | omega | exact Nat.le_refl _⟩, ⟨by (with_reducible repeat (first | refine blk_drewN ?_ _ | refine blk_drew ?_ | refine blk_alloc ?_ _)); exact BK356.out⟩, ⟨by (with_reducible repeat (first | refine blk_drewN ?_ _ | refine blk_drew ?_ | refine blk_alloc ?_ _)); exact BK365.out⟩, ⟨by repeat (first | (with_reducible first | exact HB.out | apply below_alloc | apply pw_below_drewN | apply below_drew1 | refine below_set ?_ GE356.out | refine below_set ?_ GE365.out) | exact HB.out)⟩⟩
        case rest =>
         clear HC21
         try clear c1
         try clear c2
         try clear p2
         try clear c3
         try clear c4
         try clear c6
         try clear c7
         try clear c8
         try clear c9
         try clear c10
         try clear c11
         try clear c14
         try clear c14b0
         try clear c14b1
         try clear c15
         try clear c15b0
         try clear c15b1
         try clear c16
         try clear c16b0
         try clear c16b1
         try clear c17
         try clear c17b0
         try clear c19
         try clear c19b0
         try clear c19b1
         try clear c20
         try clear c20b0
         try clear c20b1
         try clear c33
         try clear c39
         try clear c39b0
         try clear hcz29_0
         try clear hcz29_1
         try clear hcz29_2
         try clear hcz29_3
         try clear hcz29_4
         try clear hcz34_0
         try clear hcz34_1
         try clear hcz34_2
         try clear hcz34_3
         try clear hcz34_4
         try clear hfz29_0
         try clear hfz29_1
         try clear hfz29_2
         try clear hfz29_3
         try clear hfz29_4
         try clear hfz34_0
         try clear hfz34_1
         try clear hfz34_2
         try clear hfz34_3
         try clear hfz34_4
         obtain ⟨kq, x86_20, rfl, HA, HJ20, BK356, BK365, HB⟩ := hcut
         cases kq with
         | zero => exact absurd HA.out (by simp [letterlocklaw11_FreshChecks.j0])
         | succ kj20 =>
          have H := HA.out
          clear HA
          simp only [letterlocklaw11_FreshChecks.j0] at H
          have HC40 := Aside0.mk H
          clear H
          go_upto_if 86 with (fail)
          go_cut [19] (fun v19 wc => ∃ (kq : Nat) (x19_39 : Int), v19 = .int .i64 x19_39 ∧ Aside0 (letterlocklaw11_FreshChecks.j1 kq a0 a2 a3 t345 x19_39 t350 t351 t352 t353 t354 = some r) ∧ Aside0 (kq ≤ kj20) ∧ Aside0 (wc.heap[gb356]? = some (.cells #[.string t350, .int .u64 t351, .int .i64 t352, .string t353, .string t354] 28 (0, 0))) ∧ Aside0 (wc.heap[gb365]? = some (.cells #[.string t359, .int .u64 t360, .int .i64 t361, .string t362, .string t363] 28 (0, 0))) ∧ Aside0 (Below w.heap.size w wc))
          case first =>
           have H := HC40.out
           clear HC40
           by_cases c41 : x86_20 = true
           ·subst c41
            have H1 : (letterlocklaw11_FreshChecks.j1 kj20 a0 a2 a3 t345 8 t350 t351 t352 t353 t354) = some r := by rw [if_pos rfl] at H; exact H
            clear H
            have H := H1
            clear H1
            have H' := Aside0.mk H
            clear H
            go_wp2
            go_meet
            case rel => exact ⟨_, (8), (by first | rfl | (simp; done) | (simp [*]; done) | (simp; exact isEmpty_ne _)), H', ⟨by have := HJ20.out; first | omega | exact Nat.le_refl _⟩, ⟨by (with_reducible repeat (first | refine blk_drewN ?_ _ | refine blk_drew ?_ | refine blk_alloc ?_ _)); exact BK356.out⟩, ⟨by (with_reducible repeat (first | refine blk_drewN ?_ _ | refine blk_drew ?_ | refine blk_alloc ?_ _)); exact BK365.out⟩, ⟨by repeat (first | (with_reducible first | exact HB.out | apply below_alloc | apply pw_below_drewN | apply below_drew1 | refine below_set ?_ GE356.out | refine below_set ?_ GE365.out) | exact HB.out)⟩⟩
           ·replace c41 := Bool.eq_false_iff.mpr c41
            subst c41
            have H1 : (letterlocklaw11_FreshChecks.j1 kj20 a0 a2 a3 t345 0 t350 t351 t352 t353 t354) = some r := by rw [if_neg (show ¬ (false = true) by decide)] at H; exact H
            clear H
            have H := H1
            clear H1
            have H' := Aside0.mk H
            clear H
            go_wp2
            go_meet
            case rel => exact ⟨_, (0), (by first | rfl | (simp; done) | (simp [*]; done) | (simp; exact isEmpty_ne _)), H', ⟨by have := HJ20.out; first | omega | exact Nat.le_refl _⟩, ⟨by (with_reducible repeat (first | refine blk_drewN ?_ _ | refine blk_drew ?_ | refine blk_alloc ?_ _)); exact BK356.out⟩, ⟨by (with_reducible repeat (first | refine blk_drewN ?_ _ | refine blk_drew ?_ | refine blk_alloc ?_ _)); exact BK365.out⟩, ⟨by repeat (first | (with_reducible first | exact HB.out | apply below_alloc | apply pw_below_drewN | apply below_drew1 | refine below_set ?_ GE356.out | refine below_set ?_ GE365.out) | exact HB.out)⟩⟩
          case rest =>
           clear HC40
           try clear c1
           try clear c2
           try clear p2
           try clear c3
           try clear c4
           try clear c6
           try clear c7
           try clear c8
           try clear c9
           try clear c10
           try clear c11
           try clear c14
           try clear c14b0
           try clear c14b1
           try clear c15
           try clear c15b0
           try clear c15b1
           try clear c16
           try clear c16b0
           try clear c16b1
           try clear c17
           try clear c17b0
           try clear c19
           try clear c19b0
           try clear c19b1
           try clear c20
           try clear c20b0
           try clear c20b1
           try clear c33
           try clear c39
           try clear c39b0
           try clear c41
           try clear hcz29_0
           try clear hcz29_1
           try clear hcz29_2
           try clear hcz29_3
           try clear hcz29_4
           try clear hcz34_0
           try clear hcz34_1
           try clear hcz34_2
           try clear hcz34_3
           try clear hcz34_4
           try clear hfz29_0
           try clear hfz29_1
           try clear hfz29_2
           try clear hfz29_3
           try clear hfz29_4
           try clear hfz34_0
           try clear hfz34_1
           try clear hfz34_2
           try clear hfz34_3
           try clear hfz34_4
           try clear p2
           obtain ⟨kq, x19_39, rfl, HA, HJ39, BK356, BK365, HB⟩ := hcut
           cases kq with
           | zero => exact absurd HA.out (by simp [letterlocklaw11_FreshChecks.j1])
           | succ kj39 =>
            have H := HA.out
            clear HA
            simp only [letterlocklaw11_FreshChecks.j1] at H
            replace H := Option.bind_eq_some_iff.mp H
            obtain ⟨t369, A420, H⟩ := H
            replace H : ((letterlocklaw11_who.f (wrap64 (t369 + 1))).bind fun t370 => ((letterlocklaw11_publicOf.f kj39 t345).bind fun t373 => ((fresh_Check.f kj39 t350 t351 t352 t353 t354 t373 t345 a2 a3).bind fun t374 => (if t374 = x19_39 then ((letterlocklaw11_publicOf.f kj39 t370).bind fun t375 => ((fresh_Check.f kj39 t350 t351 t352 t353 t354 t375 t345 a2 a3).bind fun t376 => (if t376 = 7 then ((letterlocklaw11_publicOf.f kj39 t345).bind fun t377 => ((fresh_Check.f kj39 t350 t351 t352 t353 t354 t377 t370 a2 a3).bind fun t378 => (if t378 = 3 then ((letterlocklaw11_publicOf.f kj39 t345).bind fun t379 => ((fresh_Check.f kj39 t350 (IntKind.u64.wrap (t351 + 1)) t352 t353 t354 t379 t345 a2 a3).bind fun t380 => (if t380 = 7 then ((letterlocklaw11_publicOf.f kj39 t345).bind fun t381 => ((fresh_Check.f kj39 t350 t351 (Int.tmod (wrap64 (t352 + 1)) 9) t353 t354 t381 t345 a2 a3).bind fun t382 => (if t382 = 7 then ((letterlocklaw11_secretOf.f kj39 t345).bind fun t383 => ((fresh_Check.f kj39 t350 t351 t352 t353 t354 t383 t345 a2 a3).bind fun t384 => (some (t384 == 1)))) else (none)))) else (none)))) else (none)))) else (none)))) else (none))))) = some r := H
            have A42 := Aside0.mk A420
            clear A420
            replace H := Option.bind_eq_some_iff.mp H
            obtain ⟨t370, A430, H⟩ := H
            replace H : ((letterlocklaw11_publicOf.f kj39 t345).bind fun t373 => ((fresh_Check.f kj39 t350 t351 t352 t353 t354 t373 t345 a2 a3).bind fun t374 => (if t374 = x19_39 then ((letterlocklaw11_publicOf.f kj39 t370).bind fun t375 => ((fresh_Check.f kj39 t350 t351 t352 t353 t354 t375 t345 a2 a3).bind fun t376 => (if t376 = 7 then ((letterlocklaw11_publicOf.f kj39 t345).bind fun t377 => ((fresh_Check.f kj39 t350 t351 t352 t353 t354 t377 t370 a2 a3).bind fun t378 => (if t378 = 3 then ((letterlocklaw11_publicOf.f kj39 t345).bind fun t379 => ((fresh_Check.f kj39 t350 (IntKind.u64.wrap (t351 + 1)) t352 t353 t354 t379 t345 a2 a3).bind fun t380 => (if t380 = 7 then ((letterlocklaw11_publicOf.f kj39 t345).bind fun t381 => ((fresh_Check.f kj39 t350 t351 (Int.tmod (wrap64 (t352 + 1)) 9) t353 t354 t381 t345 a2 a3).bind fun t382 => (if t382 = 7 then ((letterlocklaw11_secretOf.f kj39 t345).bind fun t383 => ((fresh_Check.f kj39 t350 t351 t352 t353 t354 t383 t345 a2 a3).bind fun t384 => (some (t384 == 1)))) else (none)))) else (none)))) else (none)))) else (none)))) else (none)))) = some r := H
            have A43 := Aside0.mk A430
            clear A430
            replace H := Option.bind_eq_some_iff.mp H
            obtain ⟨t373, A440, H⟩ := H
            replace H : ((fresh_Check.f kj39 t350 t351 t352 t353 t354 t373 t345 a2 a3).bind fun t374 => (if t374 = x19_39 then ((letterlocklaw11_publicOf.f kj39 t370).bind fun t375 => ((fresh_Check.f kj39 t350 t351 t352 t353 t354 t375 t345 a2 a3).bind fun t376 => (if t376 = 7 then ((letterlocklaw11_publicOf.f kj39 t345).bind fun t377 => ((fresh_Check.f kj39 t350 t351 t352 t353 t354 t377 t370 a2 a3).bind fun t378 => (if t378 = 3 then ((letterlocklaw11_publicOf.f kj39 t345).bind fun t379 => ((fresh_Check.f kj39 t350 (IntKind.u64.wrap (t351 + 1)) t352 t353 t354 t379 t345 a2 a3).bind fun t380 => (if t380 = 7 then ((letterlocklaw11_publicOf.f kj39 t345).bind fun t381 => ((fresh_Check.f kj39 t350 t351 (Int.tmod (wrap64 (t352 + 1)) 9) t353 t354 t381 t345 a2 a3).bind fun t382 => (if t382 = 7 then ((letterlocklaw11_secretOf.f kj39 t345).bind fun t383 => ((fresh_Check.f kj39 t350 t351 t352 t353 t354 t383 t345 a2 a3).bind fun t384 => (some (t384 == 1)))) else (none)))) else (none)))) else (none)))) else (none)))) else (none))) = some r := H
            have A44 := Aside0.mk A440
            clear A440
            replace H := Option.bind_eq_some_iff.mp H
            obtain ⟨t374, A450, H⟩ := H
            replace H : (if t374 = x19_39 then ((letterlocklaw11_publicOf.f kj39 t370).bind fun t375 => ((fresh_Check.f kj39 t350 t351 t352 t353 t354 t375 t345 a2 a3).bind fun t376 => (if t376 = 7 then ((letterlocklaw11_publicOf.f kj39 t345).bind fun t377 => ((fresh_Check.f kj39 t350 t351 t352 t353 t354 t377 t370 a2 a3).bind fun t378 => (if t378 = 3 then ((letterlocklaw11_publicOf.f kj39 t345).bind fun t379 => ((fresh_Check.f kj39 t350 (IntKind.u64.wrap (t351 + 1)) t352 t353 t354 t379 t345 a2 a3).bind fun t380 => (if t380 = 7 then ((letterlocklaw11_publicOf.f kj39 t345).bind fun t381 => ((fresh_Check.f kj39 t350 t351 (Int.tmod (wrap64 (t352 + 1)) 9) t353 t354 t381 t345 a2 a3).bind fun t382 => (if t382 = 7 then ((letterlocklaw11_secretOf.f kj39 t345).bind fun t383 => ((fresh_Check.f kj39 t350 t351 t352 t353 t354 t383 t345 a2 a3).bind fun t384 => (some (t384 == 1)))) else (none)))) else (none)))) else (none)))) else (none)))) else (none)) = some r := H
            have A45 := Aside0.mk A450
            clear A450
            by_cases c46 : t374 = x19_39
            ·rw [if_pos c46] at H
             have c46b0 : (t374 == x19_39) = true := beq_iff_eq.mpr c46
             have c46b1 : (t374 != x19_39) = false := bne_eq_false_iff_eq.mpr c46
             clear c46
             replace H := Option.bind_eq_some_iff.mp H
             obtain ⟨t375, A470, H⟩ := H
             replace H : ((fresh_Check.f kj39 t350 t351 t352 t353 t354 t375 t345 a2 a3).bind fun t376 => (if t376 = 7 then ((letterlocklaw11_publicOf.f kj39 t345).bind fun t377 => ((fresh_Check.f kj39 t350 t351 t352 t353 t354 t377 t370 a2 a3).bind fun t378 => (if t378 = 3 then ((letterlocklaw11_publicOf.f kj39 t345).bind fun t379 => ((fresh_Check.f kj39 t350 (IntKind.u64.wrap (t351 + 1)) t352 t353 t354 t379 t345 a2 a3).bind fun t380 => (if t380 = 7 then ((letterlocklaw11_publicOf.f kj39 t345).bind fun t381 => ((fresh_Check.f kj39 t350 t351 (Int.tmod (wrap64 (t352 + 1)) 9) t353 t354 t381 t345 a2 a3).bind fun t382 => (if t382 = 7 then ((letterlocklaw11_secretOf.f kj39 t345).bind fun t383 => ((fresh_Check.f kj39 t350 t351 t352 t353 t354 t383 t345 a2 a3).bind fun t384 => (some (t384 == 1)))) else (none)))) else (none)))) else (none)))) else (none))) = some r := H
             have A47 := Aside0.mk A470
             clear A470
             replace H := Option.bind_eq_some_iff.mp H
             obtain ⟨t376, A480, H⟩ := H
             replace H : (if t376 = 7 then ((letterlocklaw11_publicOf.f kj39 t345).bind fun t377 => ((fresh_Check.f kj39 t350 t351 t352 t353 t354 t377 t370 a2 a3).bind fun t378 => (if t378 = 3 then ((letterlocklaw11_publicOf.f kj39 t345).bind fun t379 => ((fresh_Check.f kj39 t350 (IntKind.u64.wrap (t351 + 1)) t352 t353 t354 t379 t345 a2 a3).bind fun t380 => (if t380 = 7 then ((letterlocklaw11_publicOf.f kj39 t345).bind fun t381 => ((fresh_Check.f kj39 t350 t351 (Int.tmod (wrap64 (t352 + 1)) 9) t353 t354 t381 t345 a2 a3).bind fun t382 => (if t382 = 7 then ((letterlocklaw11_secretOf.f kj39 t345).bind fun t383 => ((fresh_Check.f kj39 t350 t351 t352 t353 t354 t383 t345 a2 a3).bind fun t384 => (some (t384 == 1)))) else (none)))) else (none)))) else (none)))) else (none)) = some r := H
             have A48 := Aside0.mk A480
             clear A480
             by_cases c49 : t376 = 7
             ·rw [if_pos c49] at H
              have c49b0 : (t376 == 7) = true := beq_iff_eq.mpr c49
              have c49b1 : (t376 != 7) = false := bne_eq_false_iff_eq.mpr c49
              clear c49
              replace H := Option.bind_eq_some_iff.mp H
              obtain ⟨t377, A500, H⟩ := H
              replace H : ((fresh_Check.f kj39 t350 t351 t352 t353 t354 t377 t370 a2 a3).bind fun t378 => (if t378 = 3 then ((letterlocklaw11_publicOf.f kj39 t345).bind fun t379 => ((fresh_Check.f kj39 t350 (IntKind.u64.wrap (t351 + 1)) t352 t353 t354 t379 t345 a2 a3).bind fun t380 => (if t380 = 7 then ((letterlocklaw11_publicOf.f kj39 t345).bind fun t381 => ((fresh_Check.f kj39 t350 t351 (Int.tmod (wrap64 (t352 + 1)) 9) t353 t354 t381 t345 a2 a3).bind fun t382 => (if t382 = 7 then ((letterlocklaw11_secretOf.f kj39 t345).bind fun t383 => ((fresh_Check.f kj39 t350 t351 t352 t353 t354 t383 t345 a2 a3).bind fun t384 => (some (t384 == 1)))) else (none)))) else (none)))) else (none))) = some r := H
              have A50 := Aside0.mk A500
              clear A500
              replace H := Option.bind_eq_some_iff.mp H
              obtain ⟨t378, A510, H⟩ := H
              replace H : (if t378 = 3 then ((letterlocklaw11_publicOf.f kj39 t345).bind fun t379 => ((fresh_Check.f kj39 t350 (IntKind.u64.wrap (t351 + 1)) t352 t353 t354 t379 t345 a2 a3).bind fun t380 => (if t380 = 7 then ((letterlocklaw11_publicOf.f kj39 t345).bind fun t381 => ((fresh_Check.f kj39 t350 t351 (Int.tmod (wrap64 (t352 + 1)) 9) t353 t354 t381 t345 a2 a3).bind fun t382 => (if t382 = 7 then ((letterlocklaw11_secretOf.f kj39 t345).bind fun t383 => ((fresh_Check.f kj39 t350 t351 t352 t353 t354 t383 t345 a2 a3).bind fun t384 => (some (t384 == 1)))) else (none)))) else (none)))) else (none)) = some r := H
              have A51 := Aside0.mk A510
              clear A510
              by_cases c52 : t378 = 3
              ·rw [if_pos c52] at H
               have c52b0 : (t378 == 3) = true := beq_iff_eq.mpr c52
               have c52b1 : (t378 != 3) = false := bne_eq_false_iff_eq.mpr c52
               clear c52
               replace H := Option.bind_eq_some_iff.mp H
               obtain ⟨t379, A530, H⟩ := H
               replace H : ((fresh_Check.f kj39 t350 (IntKind.u64.wrap (t351 + 1)) t352 t353 t354 t379 t345 a2 a3).bind fun t380 => (if t380 = 7 then ((letterlocklaw11_publicOf.f kj39 t345).bind fun t381 => ((fresh_Check.f kj39 t350 t351 (Int.tmod (wrap64 (t352 + 1)) 9) t353 t354 t381 t345 a2 a3).bind fun t382 => (if t382 = 7 then ((letterlocklaw11_secretOf.f kj39 t345).bind fun t383 => ((fresh_Check.f kj39 t350 t351 t352 t353 t354 t383 t345 a2 a3).bind fun t384 => (some (t384 == 1)))) else (none)))) else (none))) = some r := H
               have A53 := Aside0.mk A530
               clear A530
               replace H := Option.bind_eq_some_iff.mp H
               obtain ⟨t380, A540, H⟩ := H
               replace H : (if t380 = 7 then ((letterlocklaw11_publicOf.f kj39 t345).bind fun t381 => ((fresh_Check.f kj39 t350 t351 (Int.tmod (wrap64 (t352 + 1)) 9) t353 t354 t381 t345 a2 a3).bind fun t382 => (if t382 = 7 then ((letterlocklaw11_secretOf.f kj39 t345).bind fun t383 => ((fresh_Check.f kj39 t350 t351 t352 t353 t354 t383 t345 a2 a3).bind fun t384 => (some (t384 == 1)))) else (none)))) else (none)) = some r := H
               have A54 := Aside0.mk A540
               clear A540
               by_cases c55 : t380 = 7
               ·rw [if_pos c55] at H
                have c55b0 : (t380 == 7) = true := beq_iff_eq.mpr c55
                have c55b1 : (t380 != 7) = false := bne_eq_false_iff_eq.mpr c55
                clear c55
                replace H := Option.bind_eq_some_iff.mp H
                obtain ⟨t381, A560, H⟩ := H
                replace H : ((fresh_Check.f kj39 t350 t351 (Int.tmod (wrap64 (t352 + 1)) 9) t353 t354 t381 t345 a2 a3).bind fun t382 => (if t382 = 7 then ((letterlocklaw11_secretOf.f kj39 t345).bind fun t383 => ((fresh_Check.f kj39 t350 t351 t352 t353 t354 t383 t345 a2 a3).bind fun t384 => (some (t384 == 1)))) else (none))) = some r := H
                have A56 := Aside0.mk A560
                clear A560
                replace H := Option.bind_eq_some_iff.mp H
                obtain ⟨t382, A570, H⟩ := H
                replace H : (if t382 = 7 then ((letterlocklaw11_secretOf.f kj39 t345).bind fun t383 => ((fresh_Check.f kj39 t350 t351 t352 t353 t354 t383 t345 a2 a3).bind fun t384 => (some (t384 == 1)))) else (none)) = some r := H
                have A57 := Aside0.mk A570
                clear A570
                by_cases c58 : t382 = 7
                ·rw [if_pos c58] at H
                 have c58b0 : (t382 == 7) = true := beq_iff_eq.mpr c58
                 have c58b1 : (t382 != 7) = false := bne_eq_false_iff_eq.mpr c58
                 clear c58
                 replace H := Option.bind_eq_some_iff.mp H
                 obtain ⟨t383, A590, H⟩ := H
                 replace H : ((fresh_Check.f kj39 t350 t351 t352 t353 t354 t383 t345 a2 a3).bind fun t384 => (some (t384 == 1))) = some r := H
                 have A59 := Aside0.mk A590
                 clear A590
                 replace H := Option.bind_eq_some_iff.mp H
                 obtain ⟨t384, A600, H⟩ := H
                 replace H : (some (t384 == 1)) = some r := H
                 have A60 := Aside0.mk A600
                 clear A600
                 obtain rfl := Option.some.inj H
                 try go_wp2_with (first | ((with_reducible refine gate_callee (f := 13) rfl ?_); refine goesL_ (some 88) rfl rfl Tryd.func13 (by kernel_rfl) rfl #[.int .i64 a0, .int .i64 8] rfl (by (try simp only [List.map_toArray, List.map_cons, List.map_nil]); first | done | rfl | (simp only [List.length_drop, List.length_take]; rfl)) ?_; (with_reducible refine (letterlocklaw11_pick.calls a0 8 t369 _ A42.out).mono ?_); rintro e w' ⟨rfl, ⟨nd, rfl⟩⟩; refine ⟨_, rfl, ?_⟩; (try (rw [drewN_self wc]; generalize hq_ : World.drewN wc _ = wc; have n0_ : Aside0 (wc.heap[gb356]? = some (.cells #[.string t350, .int .u64 t351, .int .i64 t352, .string t353, .string t354] 28 (0, 0))) := ⟨by rw [← hq_]; exact (by (with_reducible repeat (first | refine blk_drewN ?_ _ | refine blk_drew ?_ | refine blk_alloc ?_ _)); exact BK356.out)⟩; have n1_ : Aside0 (wc.heap[gb365]? = some (.cells #[.string t359, .int .u64 t360, .int .i64 t361, .string t362, .string t363] 28 (0, 0))) := ⟨by rw [← hq_]; exact (by (with_reducible repeat (first | refine blk_drewN ?_ _ | refine blk_drew ?_ | refine blk_alloc ?_ _)); exact BK365.out)⟩; have n2_ : Aside0 (Below w.heap.size w wc) := ⟨by rw [← hq_]; exact (by repeat (first | (with_reducible first | exact HB.out | apply below_alloc | apply pw_below_drewN | apply below_drew1 | refine below_set ?_ GE356.out | refine below_set ?_ GE365.out) | exact HB.out))⟩; clear BK356 BK365 HB hq_; have BK356 := n0_; have BK365 := n1_; have HB := n2_; clear n0_ n1_ n2_))) | ((with_reducible refine gate_callee (f := 16) rfl ?_); refine goesL_ (some 90) rfl rfl Tryd.func16 (by kernel_rfl) rfl #[.int .i64 (wrap64 (t369 + 1))] rfl (by (try simp only [List.map_toArray, List.map_cons, List.map_nil]); first | done | rfl | (simp only [List.length_drop, List.length_take]; rfl)) ?_; (with_reducible refine (letterlocklaw11_who.calls (wrap64 (t369 + 1)) t370 _ A43.out).mono ?_); rintro e w61 ⟨rfl, hb⟩; refine ⟨_, rfl, ?_⟩; have n0_ := Aside0.mk (blk_below (g := gb356) (o := .cells #[.string t350, .int .u64 t351, .int .i64 t352, .string t353, .string t354] 28 (0, 0)) (by (with_reducible repeat (first | refine blk_drewN ?_ _ | refine blk_drew ?_ | refine blk_alloc ?_ _)); exact BK356.out) hb); have n1_ := Aside0.mk (blk_below (g := gb365) (o := .cells #[.string t359, .int .u64 t360, .int .i64 t361, .string t362, .string t363] 28 (0, 0)) (by (with_reducible repeat (first | refine blk_drewN ?_ _ | refine blk_drew ?_ | refine blk_alloc ?_ _)); exact BK365.out) hb); have n2_ := Aside0.mk (below_step (by repeat (first | (with_reducible first | exact HB.out | apply below_alloc | apply pw_below_drewN | apply below_drew1 | refine below_set ?_ GE356.out | refine below_set ?_ GE365.out) | exact HB.out)) hb); clear BK356; clear BK365; clear HB; have BK356 := n0_; have BK365 := n1_; have HB := n2_; clear n0_ n1_ n2_; (try clear hb); (try clear hb2); (try clear hk); (try clear hi); have hnb62 := NB356_365.out; have hnc62 := NB365_356.out; have hcz63_0 : w61.cell? ⟨gb356, 0, none⟩ = some (.string t350) := (blk_cell BK356.out 0).trans rfl; have hcz63_1 : w61.cell? ⟨gb356, 1, none⟩ = some (.int .u64 t351) := (blk_cell BK356.out 1).trans rfl; have hcz63_2 : w61.cell? ⟨gb356, 2, none⟩ = some (.int .i64 t352) := (blk_cell BK356.out 2).trans rfl; have hcz63_3 : w61.cell? ⟨gb356, 3, none⟩ = some (.string t353) := (blk_cell BK356.out 3).trans rfl; have hcz63_4 : w61.cell? ⟨gb356, 4, none⟩ = some (.string t354) := (blk_cell BK356.out 4).trans rfl; have hfz63_0 := blk_frozen BK356.out 0; have hfz63_1 := blk_frozen BK356.out 1; have hfz63_2 := blk_frozen BK356.out 2; have hfz63_3 := blk_frozen BK356.out 3; have hfz63_4 := blk_frozen BK356.out 4) | ((with_reducible refine gate_dst (N := 21) rfl ?_); (try (refine gate_guard (by rfl) ?_; dsimp only)); refine box_event ?hg (N := 21) ?hd (cs := #[.string (⟨#[]⟩ : ByteArray), .int .u64 0, .int .i64 0, .string (⟨#[]⟩ : ByteArray), .string (⟨#[]⟩ : ByteArray)]) (t := 28) ?hr ?_; (case hd => rfl); (case hg => rfl); (case hr => first | (go_simp; done) | (go_simp; rfl)); intro gb371 hg w64 hbox hb; have n0_ := Aside0.mk (blk_below (g := gb356) (o := .cells #[.string t350, .int .u64 t351, .int .i64 t352, .string t353, .string t354] 28 (0, 0)) (by (with_reducible repeat (first | refine blk_drewN ?_ _ | refine blk_drew ?_ | refine blk_alloc ?_ _)); exact BK356.out) hb); have n1_ := Aside0.mk (blk_below (g := gb365) (o := .cells #[.string t359, .int .u64 t360, .int .i64 t361, .string t362, .string t363] 28 (0, 0)) (by (with_reducible repeat (first | refine blk_drewN ?_ _ | refine blk_drew ?_ | refine blk_alloc ?_ _)); exact BK365.out) hb); have n2_ := Aside0.mk (below_step (by repeat (first | (with_reducible first | exact HB.out | apply below_alloc | apply pw_below_drewN | apply below_drew1 | refine below_set ?_ GE356.out | refine below_set ?_ GE365.out) | exact HB.out)) hb); have n3_ := Aside0.mk (hbox); have n4_ := Aside0.mk ((by rw [hg]; exact (below_size (by repeat (first | (with_reducible first | exact HB.out | apply below_alloc | apply pw_below_drewN | apply below_drew1 | refine below_set ?_ GE356.out | refine below_set ?_ GE365.out) | exact HB.out))) : w.heap.size ≤ gb371)); have n5_ := Aside0.mk ((by rw [hg]; exact (below_size (by repeat (first | (with_reducible first | exact HB.out | apply below_alloc | apply pw_below_drewN | apply below_drew1 | refine below_set ?_ GE356.out | refine below_set ?_ GE365.out) | exact HB.out))) : w.heap.size ≤ gb371)); have n6_ := Aside0.mk ((by rw [hg]; exact Nat.ne_of_lt (blk_lt (g := gb356) (o := .cells #[.string t350, .int .u64 t351, .int .i64 t352, .string t353, .string t354] 28 (0, 0)) (by (with_reducible repeat (first | refine blk_drewN ?_ _ | refine blk_drew ?_ | refine blk_alloc ?_ _)); exact BK356.out)) : gb356 ≠ gb371)); have n7_ := Aside0.mk ((by rw [hg]; exact Nat.ne_of_gt (blk_lt (g := gb356) (o := .cells #[.string t350, .int .u64 t351, .int .i64 t352, .string t353, .string t354] 28 (0, 0)) (by (with_reducible repeat (first | refine blk_drewN ?_ _ | refine blk_drew ?_ | refine blk_alloc ?_ _)); exact BK356.out)) : gb371 ≠ gb356)); have n8_ := Aside0.mk ((by rw [hg]; exact Nat.ne_of_lt (blk_lt (g := gb365) (o := .cells #[.string t359, .int .u64 t360, .int .i64 t361, .string t362, .string t363] 28 (0, 0)) (by (with_reducible repeat (first | refine blk_drewN ?_ _ | refine blk_drew ?_ | refine blk_alloc ?_ _)); exact BK365.out)) : gb365 ≠ gb371)); have n9_ := Aside0.mk ((by rw [hg]; exact Nat.ne_of_gt (blk_lt (g := gb365) (o := .cells #[.string t359, .int .u64 t360, .int .i64 t361, .string t362, .string t363] 28 (0, 0)) (by (with_reducible repeat (first | refine blk_drewN ?_ _ | refine blk_drew ?_ | refine blk_alloc ?_ _)); exact BK365.out)) : gb371 ≠ gb365)); clear BK356; clear BK365; clear HB; have BK356 := n0_; have BK365 := n1_; have HB := n2_; have BK371 := n3_; have GW371 := n4_; have GE371 := n5_; have NB356_371 := n6_; have NB371_356 := n7_; have NB365_371 := n8_; have NB371_365 := n9_; clear n0_ n1_ n2_ n3_ n4_ n5_ n6_ n7_ n8_ n9_; clear hb hbox hg; have hnb65 := NB371_356.out; have hnc65 := NB356_371.out; have hnb66 := NB371_365.out; have hnc66 := NB365_371.out; have hcz67_0 : w64.cell? ⟨gb371, 0, none⟩ = some (.string (⟨#[]⟩ : ByteArray)) := (blk_cell BK371.out 0).trans rfl; have hcz67_1 : w64.cell? ⟨gb371, 1, none⟩ = some (.int .u64 0) := (blk_cell BK371.out 1).trans rfl; have hcz67_2 : w64.cell? ⟨gb371, 2, none⟩ = some (.int .i64 0) := (blk_cell BK371.out 2).trans rfl; have hcz67_3 : w64.cell? ⟨gb371, 3, none⟩ = some (.string (⟨#[]⟩ : ByteArray)) := (blk_cell BK371.out 3).trans rfl; have hcz67_4 : w64.cell? ⟨gb371, 4, none⟩ = some (.string (⟨#[]⟩ : ByteArray)) := (blk_cell BK371.out 4).trans rfl; have hfz67_0 := blk_frozen BK371.out 0; have hfz67_1 := blk_frozen BK371.out 1; have hfz67_2 := blk_frozen BK371.out 2; have hfz67_3 := blk_frozen BK371.out 3; have hfz67_4 := blk_frozen BK371.out 4; have hcz68_0 : w64.cell? ⟨gb356, 0, none⟩ = some (.string t350) := (blk_cell BK356.out 0).trans rfl; have hcz68_1 : w64.cell? ⟨gb356, 1, none⟩ = some (.int .u64 t351) := (blk_cell BK356.out 1).trans rfl; have hcz68_2 : w64.cell? ⟨gb356, 2, none⟩ = some (.int .i64 t352) := (blk_cell BK356.out 2).trans rfl; have hcz68_3 : w64.cell? ⟨gb356, 3, none⟩ = some (.string t353) := (blk_cell BK356.out 3).trans rfl; have hcz68_4 : w64.cell? ⟨gb356, 4, none⟩ = some (.string t354) := (blk_cell BK356.out 4).trans rfl; have hfz68_0 := blk_frozen BK356.out 0; have hfz68_1 := blk_frozen BK356.out 1; have hfz68_2 := blk_frozen BK356.out 2; have hfz68_3 := blk_frozen BK356.out 3; have hfz68_4 := blk_frozen BK356.out 4) | ((with_reducible refine gate_dst (N := 22) rfl ?_); (try (refine gate_guard (by rfl) ?_; dsimp only)); refine box_event ?hg (N := 22) ?hd (cs := #[.string (⟨#[]⟩ : ByteArray), .int .u64 0, .int .i64 0, .string (⟨#[]⟩ : ByteArray), .string (⟨#[]⟩ : ByteArray)]) (t := 28) ?hr ?_; (case hd => rfl); (case hg => rfl); (case hr => first | (go_simp; done) | (go_simp; rfl)); intro gb372 hg w69 hbox hb; have n0_ := Aside0.mk (blk_below (g := gb356) (o := .cells #[.string t350, .int .u64 t351, .int .i64 t352, .string t353, .string t354] 28 (0, 0)) (by (with_reducible repeat (first | refine blk_drewN ?_ _ | refine blk_drew ?_ | refine blk_alloc ?_ _)); refine blk_far ?_ NB356_371.out _; (with_reducible repeat (first | refine blk_drewN ?_ _ | refine blk_drew ?_ | refine blk_alloc ?_ _)); refine blk_far ?_ NB356_371.out _; (with_reducible repeat (first | refine blk_drewN ?_ _ | refine blk_drew ?_ | refine blk_alloc ?_ _)); refine blk_far ?_ NB356_371.out _; (with_reducible repeat (first | refine blk_drewN ?_ _ | refine blk_drew ?_ | refine blk_alloc ?_ _)); refine blk_far ?_ NB356_371.out _; (with_reducible repeat (first | refine blk_drewN ?_ _ | refine blk_drew ?_ | refine blk_alloc ?_ _)); refine blk_far ?_ NB356_371.out _; (with_reducible repeat (first | refine blk_drewN ?_ _ | refine blk_drew ?_ | refine blk_alloc ?_ _)); refine blk_far ?_ NB356_371.out _; (with_reducible repeat (first | refine blk_drewN ?_ _ | refine blk_drew ?_ | refine blk_alloc ?_ _)); exact BK356.out) hb); have n1_ := Aside0.mk (blk_below (g := gb365) (o := .cells #[.string t359, .int .u64 t360, .int .i64 t361, .string t362, .string t363] 28 (0, 0)) (by (with_reducible repeat (first | refine blk_drewN ?_ _ | refine blk_drew ?_ | refine blk_alloc ?_ _)); refine blk_far ?_ NB365_371.out _; (with_reducible repeat (first | refine blk_drewN ?_ _ | refine blk_drew ?_ | refine blk_alloc ?_ _)); refine blk_far ?_ NB365_371.out _; (with_reducible repeat (first | refine blk_drewN ?_ _ | refine blk_drew ?_ | refine blk_alloc ?_ _)); refine blk_far ?_ NB365_371.out _; (with_reducible repeat (first | refine blk_drewN ?_ _ | refine blk_drew ?_ | refine blk_alloc ?_ _)); refine blk_far ?_ NB365_371.out _; (with_reducible repeat (first | refine blk_drewN ?_ _ | refine blk_drew ?_ | refine blk_alloc ?_ _)); refine blk_far ?_ NB365_371.out _; (with_reducible repeat (first | refine blk_drewN ?_ _ | refine blk_drew ?_ | refine blk_alloc ?_ _)); refine blk_far ?_ NB365_371.out _; (with_reducible repeat (first | refine blk_drewN ?_ _ | refine blk_drew ?_ | refine blk_alloc ?_ _)); exact BK365.out) hb); have n2_ := Aside0.mk (blk_below (g := gb371) (o := .cells #[.string t350, .int .u64 (IntKind.u64.wrap (t351 + 1)), .int .i64 t352, .string t353, .string t354] 28 (0, 0)) (by (with_reducible repeat (first | refine blk_drewN ?_ _ | refine blk_drew ?_ | refine blk_alloc ?_ _)); refine blk_put (cs := #[.string t350, .int .u64 t351, .int .i64 t352, .string t353, .string t354]) ?_ 1 _ rfl; (with_reducible repeat (first | refine blk_drewN ?_ _ | refine blk_drew ?_ | refine blk_alloc ?_ _)); refine blk_put (cs := #[.string t350, .int .u64 t351, .int .i64 t352, .string t353, .string (⟨#[]⟩ : ByteArray)]) ?_ 4 _ rfl; (with_reducible repeat (first | refine blk_drewN ?_ _ | refine blk_drew ?_ | refine blk_alloc ?_ _)); refine blk_put (cs := #[.string t350, .int .u64 t351, .int .i64 t352, .string (⟨#[]⟩ : ByteArray), .string (⟨#[]⟩ : ByteArray)]) ?_ 3 _ rfl; (with_reducible repeat (first | refine blk_drewN ?_ _ | refine blk_drew ?_ | refine blk_alloc ?_ _)); refine blk_put (cs := #[.string t350, .int .u64 t351, .int .i64 0, .string (⟨#[]⟩ : ByteArray), .string (⟨#[]⟩ : ByteArray)]) ?_ 2 _ rfl; (with_reducible repeat (first | refine blk_drewN ?_ _ | refine blk_drew ?_ | refine blk_alloc ?_ _)); refine blk_put (cs := #[.string t350, .int .u64 0, .int .i64 0, .string (⟨#[]⟩ : ByteArray), .string (⟨#[]⟩ : ByteArray)]) ?_ 1 _ rfl; (with_reducible repeat (first | refine blk_drewN ?_ _ | refine blk_drew ?_ | refine blk_alloc ?_ _)); refine blk_put (cs := #[.string (⟨#[]⟩ : ByteArray), .int .u64 0, .int .i64 0, .string (⟨#[]⟩ : ByteArray), .string (⟨#[]⟩ : ByteArray)]) ?_ 0 _ rfl; (with_reducible repeat (first | refine blk_drewN ?_ _ | refine blk_drew ?_ | refine blk_alloc ?_ _)); exact BK371.out) hb); have n3_ := Aside0.mk (below_step (by repeat (first | (with_reducible first | exact HB.out | apply below_alloc | apply pw_below_drewN | apply below_drew1 | refine below_set ?_ GE356.out | refine below_set ?_ GE365.out | refine below_set ?_ GE371.out) | exact HB.out)) hb); have n4_ := Aside0.mk (hbox); have n5_ := Aside0.mk ((by rw [hg]; exact (below_size (by repeat (first | (with_reducible first | exact HB.out | apply below_alloc | apply pw_below_drewN | apply below_drew1 | refine below_set ?_ GE356.out | refine below_set ?_ GE365.out | refine below_set ?_ GE371.out) | exact HB.out))) : w.heap.size ≤ gb372)); have n6_ := Aside0.mk ((by rw [hg]; exact (below_size (by repeat (first | (with_reducible first | exact HB.out | apply below_alloc | apply pw_below_drewN | apply below_drew1 | refine below_set ?_ GE356.out | refine below_set ?_ GE365.out | refine below_set ?_ GE371.out) | exact HB.out))) : w.heap.size ≤ gb372)); have n7_ := Aside0.mk ((by rw [hg]; exact Nat.ne_of_lt (blk_lt (g := gb356) (o := .cells #[.string t350, .int .u64 t351, .int .i64 t352, .string t353, .string t354] 28 (0, 0)) (by (with_reducible repeat (first | refine blk_drewN ?_ _ | refine blk_drew ?_ | refine blk_alloc ?_ _)); refine blk_far ?_ NB356_371.out _; (with_reducible repeat (first | refine blk_drewN ?_ _ | refine blk_drew ?_ | refine blk_alloc ?_ _)); refine blk_far ?_ NB356_371.out _; (with_reducible repeat (first | refine blk_drewN ?_ _ | refine blk_drew ?_ | refine blk_alloc ?_ _)); refine blk_far ?_ NB356_371.out _; (with_reducible repeat (first | refine blk_drewN ?_ _ | refine blk_drew ?_ | refine blk_alloc ?_ _)); refine blk_far ?_ NB356_371.out _; (with_reducible repeat (first | refine blk_drewN ?_ _ | refine blk_drew ?_ | refine blk_alloc ?_ _)); refine blk_far ?_ NB356_371.out _; (with_reducible repeat (first | refine blk_drewN ?_ _ | refine blk_drew ?_ | refine blk_alloc ?_ _)); refine blk_far ?_ NB356_371.out _; (with_reducible repeat (first | refine blk_drewN ?_ _ | refine blk_drew ?_ | refine blk_alloc ?_ _)); exact BK356.out)) : gb356 ≠ gb372)); have n8_ := Aside0.mk ((by rw [hg]; exact Nat.ne_of_gt (blk_lt (g := gb356) (o := .cells #[.string t350, .int .u64 t351, .int .i64 t352, .string t353, .string t354] 28 (0, 0)) (by (with_reducible repeat (first | refine blk_drewN ?_ _ | refine blk_drew ?_ | refine blk_alloc ?_ _)); refine blk_far ?_ NB356_371.out _; (with_reducible repeat (first | refine blk_drewN ?_ _ | refine blk_drew ?_ | refine blk_alloc ?_ _)); refine blk_far ?_ NB356_371.out _; (with_reducible repeat (first | refine blk_drewN ?_ _ | refine blk_drew ?_ | refine blk_alloc ?_ _)); refine blk_far ?_ NB356_371.out _; (with_reducible repeat (first | refine blk_drewN ?_ _ | refine blk_drew ?_ | refine blk_alloc ?_ _)); refine blk_far ?_ NB356_371.out _; (with_reducible repeat (first | refine blk_drewN ?_ _ | refine blk_drew ?_ | refine blk_alloc ?_ _)); refine blk_far ?_ NB356_371.out _; (with_reducible repeat (first | refine blk_drewN ?_ _ | refine blk_drew ?_ | refine blk_alloc ?_ _)); refine blk_far ?_ NB356_371.out _; (with_reducible repeat (first | refine blk_drewN ?_ _ | refine blk_drew ?_ | refine blk_alloc ?_ _)); exact BK356.out)) : gb372 ≠ gb356)); have n9_ := Aside0.mk ((by rw [hg]; exact Nat.ne_of_lt (blk_lt (g := gb365) (o := .cells #[.string t359, .int .u64 t360, .int .i64 t361, .string t362, .string t363] 28 (0, 0)) (by (with_reducible repeat (first | refine blk_drewN ?_ _ | refine blk_drew ?_ | refine blk_alloc ?_ _)); refine blk_far ?_ NB365_371.out _; (with_reducible repeat (first | refine blk_drewN ?_ _ | refine blk_drew ?_ | refine blk_alloc ?_ _)); refine blk_far ?_ NB365_371.out _; (with_reducible repeat (first | refine blk_drewN ?_ _ | refine blk_drew ?_ | refine blk_alloc ?_ _)); refine blk_far ?_ NB365_371.out _; (with_reducible repeat (first | refine blk_drewN ?_ _ | refine blk_drew ?_ | refine blk_alloc ?_ _)); refine blk_far ?_ NB365_371.out _; (with_reducible repeat (first | refine blk_drewN ?_ _ | refine blk_drew ?_ | refine blk_alloc ?_ _)); refine blk_far ?_ NB365_371.out _; (with_reducible repeat (first | refine blk_drewN ?_ _ | refine blk_drew ?_ | refine blk_alloc ?_ _)); refine blk_far ?_ NB365_371.out _; (with_reducible repeat (first | refine blk_drewN ?_ _ | refine blk_drew ?_ | refine blk_alloc ?_ _)); exact BK365.out)) : gb365 ≠ gb372)); have n10_ := Aside0.mk ((by rw [hg]; exact Nat.ne_of_gt (blk_lt (g := gb365) (o := .cells #[.string t359, .int .u64 t360, .int .i64 t361, .string t362, .string t363] 28 (0, 0)) (by (with_reducible repeat (first | refine blk_drewN ?_ _ | refine blk_drew ?_ | refine blk_alloc ?_ _)); refine blk_far ?_ NB365_371.out _; (with_reducible repeat (first | refine blk_drewN ?_ _ | refine blk_drew ?_ | refine blk_alloc ?_ _)); refine blk_far ?_ NB365_371.out _; (with_reducible repeat (first | refine blk_drewN ?_ _ | refine blk_drew ?_ | refine blk_alloc ?_ _)); refine blk_far ?_ NB365_371.out _; (with_reducible repeat (first | refine blk_drewN ?_ _ | refine blk_drew ?_ | refine blk_alloc ?_ _)); refine blk_far ?_ NB365_371.out _; (with_reducible repeat (first | refine blk_drewN ?_ _ | refine blk_drew ?_ | refine blk_alloc ?_ _)); refine blk_far ?_ NB365_371.out _; (with_reducible repeat (first | refine blk_drewN ?_ _ | refine blk_drew ?_ | refine blk_alloc ?_ _)); refine blk_far ?_ NB365_371.out _; (with_reducible repeat (first | refine blk_drewN ?_ _ | refine blk_drew ?_ | refine blk_alloc ?_ _)); exact BK365.out)) : gb372 ≠ gb365)); have n11_ := Aside0.mk ((by rw [hg]; exact Nat.ne_of_lt (blk_lt (g := gb371) (o := .cells #[.string t350, .int .u64 (IntKind.u64.wrap (t351 + 1)), .int .i64 t352, .string t353, .string t354] 28 (0, 0)) (by (with_reducible repeat (first | refine blk_drewN ?_ _ | refine blk_drew ?_ | refine blk_alloc ?_ _)); refine blk_put (cs := #[.string t350, .int .u64 t351, .int .i64 t352, .string t353, .string t354]) ?_ 1 _ rfl; (with_reducible repeat (first | refine blk_drewN ?_ _ | refine blk_drew ?_ | refine blk_alloc ?_ _)); refine blk_put (cs := #[.string t350, .int .u64 t351, .int .i64 t352, .string t353, .string (⟨#[]⟩ : ByteArray)]) ?_ 4 _ rfl; (with_reducible repeat (first | refine blk_drewN ?_ _ | refine blk_drew ?_ | refine blk_alloc ?_ _)); refine blk_put (cs := #[.string t350, .int .u64 t351, .int .i64 t352, .string (⟨#[]⟩ : ByteArray), .string (⟨#[]⟩ : ByteArray)]) ?_ 3 _ rfl; (with_reducible repeat (first | refine blk_drewN ?_ _ | refine blk_drew ?_ | refine blk_alloc ?_ _)); refine blk_put (cs := #[.string t350, .int .u64 t351, .int .i64 0, .string (⟨#[]⟩ : ByteArray), .string (⟨#[]⟩ : ByteArray)]) ?_ 2 _ rfl; (with_reducible repeat (first | refine blk_drewN ?_ _ | refine blk_drew ?_ | refine blk_alloc ?_ _)); refine blk_put (cs := #[.string t350, .int .u64 0, .int .i64 0, .string (⟨#[]⟩ : ByteArray), .string (⟨#[]⟩ : ByteArray)]) ?_ 1 _ rfl; (with_reducible repeat (first | refine blk_drewN ?_ _ | refine blk_drew ?_ | refine blk_alloc ?_ _)); refine blk_put (cs := #[.string (⟨#[]⟩ : ByteArray), .int .u64 0, .int .i64 0, .string (⟨#[]⟩ : ByteArray), .string (⟨#[]⟩ : ByteArray)]) ?_ 0 _ rfl; (with_reducible repeat (first | refine blk_drewN ?_ _ | refine blk_drew ?_ | refine blk_alloc ?_ _)); exact BK371.out)) : gb371 ≠ gb372)); have n12_ := Aside0.mk ((by rw [hg]; exact Nat.ne_of_gt (blk_lt (g := gb371) (o := .cells #[.string t350, .int .u64 (IntKind.u64.wrap (t351 + 1)), .int .i64 t352, .string t353, .string t354] 28 (0, 0)) (by (with_reducible repeat (first | refine blk_drewN ?_ _ | refine blk_drew ?_ | refine blk_alloc ?_ _)); refine blk_put (cs := #[.string t350, .int .u64 t351, .int .i64 t352, .string t353, .string t354]) ?_ 1 _ rfl; (with_reducible repeat (first | refine blk_drewN ?_ _ | refine blk_drew ?_ | refine blk_alloc ?_ _)); refine blk_put (cs := #[.string t350, .int .u64 t351, .int .i64 t352, .string t353, .string (⟨#[]⟩ : ByteArray)]) ?_ 4 _ rfl; (with_reducible repeat (first | refine blk_drewN ?_ _ | refine blk_drew ?_ | refine blk_alloc ?_ _)); refine blk_put (cs := #[.string t350, .int .u64 t351, .int .i64 t352, .string (⟨#[]⟩ : ByteArray), .string (⟨#[]⟩ : ByteArray)]) ?_ 3 _ rfl; (with_reducible repeat (first | refine blk_drewN ?_ _ | refine blk_drew ?_ | refine blk_alloc ?_ _)); refine blk_put (cs := #[.string t350, .int .u64 t351, .int .i64 0, .string (⟨#[]⟩ : ByteArray), .string (⟨#[]⟩ : ByteArray)]) ?_ 2 _ rfl; (with_reducible repeat (first | refine blk_drewN ?_ _ | refine blk_drew ?_ | refine blk_alloc ?_ _)); refine blk_put (cs := #[.string t350, .int .u64 0, .int .i64 0, .string (⟨#[]⟩ : ByteArray), .string (⟨#[]⟩ : ByteArray)]) ?_ 1 _ rfl; (with_reducible repeat (first | refine blk_drewN ?_ _ | refine blk_drew ?_ | refine blk_alloc ?_ _)); refine blk_put (cs := #[.string (⟨#[]⟩ : ByteArray), .int .u64 0, .int .i64 0, .string (⟨#[]⟩ : ByteArray), .string (⟨#[]⟩ : ByteArray)]) ?_ 0 _ rfl; (with_reducible repeat (first | refine blk_drewN ?_ _ | refine blk_drew ?_ | refine blk_alloc ?_ _)); exact BK371.out)) : gb372 ≠ gb371)); clear BK356; clear BK365; clear BK371; clear HB; have BK356 := n0_; have BK365 := n1_; have BK371 := n2_; have HB := n3_; have BK372 := n4_; have GW372 := n5_; have GE372 := n6_; have NB356_372 := n7_; have NB372_356 := n8_; have NB365_372 := n9_; have NB372_365 := n10_; have NB371_372 := n11_; have NB372_371 := n12_; clear n0_ n1_ n2_ n3_ n4_ n5_ n6_ n7_ n8_ n9_ n10_ n11_ n12_; clear hb hbox hg; have hnb70 := NB372_356.out; have hnc70 := NB356_372.out; have hnb71 := NB372_365.out; have hnc71 := NB365_372.out; have hnb72 := NB372_371.out; have hnc72 := NB371_372.out; have hcz73_0 : w69.cell? ⟨gb372, 0, none⟩ = some (.string (⟨#[]⟩ : ByteArray)) := (blk_cell BK372.out 0).trans rfl; have hcz73_1 : w69.cell? ⟨gb372, 1, none⟩ = some (.int .u64 0) := (blk_cell BK372.out 1).trans rfl; have hcz73_2 : w69.cell? ⟨gb372, 2, none⟩ = some (.int .i64 0) := (blk_cell BK372.out 2).trans rfl; have hcz73_3 : w69.cell? ⟨gb372, 3, none⟩ = some (.string (⟨#[]⟩ : ByteArray)) := (blk_cell BK372.out 3).trans rfl; have hcz73_4 : w69.cell? ⟨gb372, 4, none⟩ = some (.string (⟨#[]⟩ : ByteArray)) := (blk_cell BK372.out 4).trans rfl; have hfz73_0 := blk_frozen BK372.out 0; have hfz73_1 := blk_frozen BK372.out 1; have hfz73_2 := blk_frozen BK372.out 2; have hfz73_3 := blk_frozen BK372.out 3; have hfz73_4 := blk_frozen BK372.out 4))
                 have n0_ : Aside0 (((((((w69.setCell ⟨gb372, 0, none⟩ (.string t350)).setCell ⟨gb372, 1, none⟩ (.int .u64 t351)).setCell ⟨gb372, 2, none⟩ (.int .i64 t352)).setCell ⟨gb372, 3, none⟩ (.string t353)).setCell ⟨gb372, 4, none⟩ (.string t354)).setCell ⟨gb372, 2, none⟩ (.int .i64 (Int.tmod (wrap64 (t352 + 1)) 9))).heap[gb356]? = some (.cells #[.string t350, .int .u64 t351, .int .i64 t352, .string t353, .string t354] 28 (0, 0))) := ⟨by (with_reducible repeat (first | refine blk_drewN ?_ _ | refine blk_drew ?_ | refine blk_alloc ?_ _)); refine blk_far ?_ NB356_372.out _; (with_reducible repeat (first | refine blk_drewN ?_ _ | refine blk_drew ?_ | refine blk_alloc ?_ _)); refine blk_far ?_ NB356_372.out _; (with_reducible repeat (first | refine blk_drewN ?_ _ | refine blk_drew ?_ | refine blk_alloc ?_ _)); refine blk_far ?_ NB356_372.out _; (with_reducible repeat (first | refine blk_drewN ?_ _ | refine blk_drew ?_ | refine blk_alloc ?_ _)); refine blk_far ?_ NB356_372.out _; (with_reducible repeat (first | refine blk_drewN ?_ _ | refine blk_drew ?_ | refine blk_alloc ?_ _)); refine blk_far ?_ NB356_372.out _; (with_reducible repeat (first | refine blk_drewN ?_ _ | refine blk_drew ?_ | refine blk_alloc ?_ _)); refine blk_far ?_ NB356_372.out _; (with_reducible repeat (first | refine blk_drewN ?_ _ | refine blk_drew ?_ | refine blk_alloc ?_ _)); exact BK356.out⟩
                 have n1_ : Aside0 (((((((w69.setCell ⟨gb372, 0, none⟩ (.string t350)).setCell ⟨gb372, 1, none⟩ (.int .u64 t351)).setCell ⟨gb372, 2, none⟩ (.int .i64 t352)).setCell ⟨gb372, 3, none⟩ (.string t353)).setCell ⟨gb372, 4, none⟩ (.string t354)).setCell ⟨gb372, 2, none⟩ (.int .i64 (Int.tmod (wrap64 (t352 + 1)) 9))).heap[gb365]? = some (.cells #[.string t359, .int .u64 t360, .int .i64 t361, .string t362, .string t363] 28 (0, 0))) := ⟨by (with_reducible repeat (first | refine blk_drewN ?_ _ | refine blk_drew ?_ | refine blk_alloc ?_ _)); refine blk_far ?_ NB365_372.out _; (with_reducible repeat (first | refine blk_drewN ?_ _ | refine blk_drew ?_ | refine blk_alloc ?_ _)); refine blk_far ?_ NB365_372.out _; (with_reducible repeat (first | refine blk_drewN ?_ _ | refine blk_drew ?_ | refine blk_alloc ?_ _)); refine blk_far ?_ NB365_372.out _; (with_reducible repeat (first | refine blk_drewN ?_ _ | refine blk_drew ?_ | refine blk_alloc ?_ _)); refine blk_far ?_ NB365_372.out _; (with_reducible repeat (first | refine blk_drewN ?_ _ | refine blk_drew ?_ | refine blk_alloc ?_ _)); refine blk_far ?_ NB365_372.out _; (with_reducible repeat (first | refine blk_drewN ?_ _ | refine blk_drew ?_ | refine blk_alloc ?_ _)); refine blk_far ?_ NB365_372.out _; (with_reducible repeat (first | refine blk_drewN ?_ _ | refine blk_drew ?_ | refine blk_alloc ?_ _)); exact BK365.out⟩
                 have n2_ : Aside0 (((((((w69.setCell ⟨gb372, 0, none⟩ (.string t350)).setCell ⟨gb372, 1, none⟩ (.int .u64 t351)).setCell ⟨gb372, 2, none⟩ (.int .i64 t352)).setCell ⟨gb372, 3, none⟩ (.string t353)).setCell ⟨gb372, 4, none⟩ (.string t354)).setCell ⟨gb372, 2, none⟩ (.int .i64 (Int.tmod (wrap64 (t352 + 1)) 9))).heap[gb371]? = some (.cells #[.string t350, .int .u64 (IntKind.u64.wrap (t351 + 1)), .int .i64 t352, .string t353, .string t354] 28 (0, 0))) := ⟨by (with_reducible repeat (first | refine blk_drewN ?_ _ | refine blk_drew ?_ | refine blk_alloc ?_ _)); refine blk_far ?_ NB371_372.out _; (with_reducible repeat (first | refine blk_drewN ?_ _ | refine blk_drew ?_ | refine blk_alloc ?_ _)); refine blk_far ?_ NB371_372.out _; (with_reducible repeat (first | refine blk_drewN ?_ _ | refine blk_drew ?_ | refine blk_alloc ?_ _)); refine blk_far ?_ NB371_372.out _; (with_reducible repeat (first | refine blk_drewN ?_ _ | refine blk_drew ?_ | refine blk_alloc ?_ _)); refine blk_far ?_ NB371_372.out _; (with_reducible repeat (first | refine blk_drewN ?_ _ | refine blk_drew ?_ | refine blk_alloc ?_ _)); refine blk_far ?_ NB371_372.out _; (with_reducible repeat (first | refine blk_drewN ?_ _ | refine blk_drew ?_ | refine blk_alloc ?_ _)); refine blk_far ?_ NB371_372.out _; (with_reducible repeat (first | refine blk_drewN ?_ _ | refine blk_drew ?_ | refine blk_alloc ?_ _)); exact BK371.out⟩
                 have n3_ : Aside0 (((((((w69.setCell ⟨gb372, 0, none⟩ (.string t350)).setCell ⟨gb372, 1, none⟩ (.int .u64 t351)).setCell ⟨gb372, 2, none⟩ (.int .i64 t352)).setCell ⟨gb372, 3, none⟩ (.string t353)).setCell ⟨gb372, 4, none⟩ (.string t354)).setCell ⟨gb372, 2, none⟩ (.int .i64 (Int.tmod (wrap64 (t352 + 1)) 9))).heap[gb372]? = some (.cells #[.string t350, .int .u64 t351, .int .i64 (Int.tmod (wrap64 (t352 + 1)) 9), .string t353, .string t354] 28 (0, 0))) := ⟨by (with_reducible repeat (first | refine blk_drewN ?_ _ | refine blk_drew ?_ | refine blk_alloc ?_ _)); refine blk_put (cs := #[.string t350, .int .u64 t351, .int .i64 t352, .string t353, .string t354]) ?_ 2 _ rfl; (with_reducible repeat (first | refine blk_drewN ?_ _ | refine blk_drew ?_ | refine blk_alloc ?_ _)); refine blk_put (cs := #[.string t350, .int .u64 t351, .int .i64 t352, .string t353, .string (⟨#[]⟩ : ByteArray)]) ?_ 4 _ rfl; (with_reducible repeat (first | refine blk_drewN ?_ _ | refine blk_drew ?_ | refine blk_alloc ?_ _)); refine blk_put (cs := #[.string t350, .int .u64 t351, .int .i64 t352, .string (⟨#[]⟩ : ByteArray), .string (⟨#[]⟩ : ByteArray)]) ?_ 3 _ rfl; (with_reducible repeat (first | refine blk_drewN ?_ _ | refine blk_drew ?_ | refine blk_alloc ?_ _)); refine blk_put (cs := #[.string t350, .int .u64 t351, .int .i64 0, .string (⟨#[]⟩ : ByteArray), .string (⟨#[]⟩ : ByteArray)]) ?_ 2 _ rfl; (with_reducible repeat (first | refine blk_drewN ?_ _ | refine blk_drew ?_ | refine blk_alloc ?_ _)); refine blk_put (cs := #[.string t350, .int .u64 0, .int .i64 0, .string (⟨#[]⟩ : ByteArray), .string (⟨#[]⟩ : ByteArray)]) ?_ 1 _ rfl; (with_reducible repeat (first | refine blk_drewN ?_ _ | refine blk_drew ?_ | refine blk_alloc ?_ _)); refine blk_put (cs := #[.string (⟨#[]⟩ : ByteArray), .int .u64 0, .int .i64 0, .string (⟨#[]⟩ : ByteArray), .string (⟨#[]⟩ : ByteArray)]) ?_ 0 _ rfl; (with_reducible repeat (first | refine blk_drewN ?_ _ | refine blk_drew ?_ | refine blk_alloc ?_ _)); exact BK372.out⟩
                 have n4_ : Aside0 (Below w.heap.size w ((((((w69.setCell ⟨gb372, 0, none⟩ (.string t350)).setCell ⟨gb372, 1, none⟩ (.int .u64 t351)).setCell ⟨gb372, 2, none⟩ (.int .i64 t352)).setCell ⟨gb372, 3, none⟩ (.string t353)).setCell ⟨gb372, 4, none⟩ (.string t354)).setCell ⟨gb372, 2, none⟩ (.int .i64 (Int.tmod (wrap64 (t352 + 1)) 9)))) := ⟨by repeat (first | (with_reducible first | exact HB.out | apply below_alloc | apply pw_below_drewN | apply below_drew1 | refine below_set ?_ GE356.out | refine below_set ?_ GE365.out | refine below_set ?_ GE371.out | refine below_set ?_ GE372.out) | exact HB.out)⟩
                 (try clear BK356)
                 (try clear BK365)
                 (try clear BK371)
                 (try clear BK372)
                 (try clear HB)
                 generalize ((((((w69.setCell ⟨gb372, 0, none⟩ (.string t350)).setCell ⟨gb372, 1, none⟩ (.int .u64 t351)).setCell ⟨gb372, 2, none⟩ (.int .i64 t352)).setCell ⟨gb372, 3, none⟩ (.string t353)).setCell ⟨gb372, 4, none⟩ (.string t354)).setCell ⟨gb372, 2, none⟩ (.int .i64 (Int.tmod (wrap64 (t352 + 1)) 9))) = w74 at n0_ n1_ n2_ n3_ n4_ ⊢
                 have BK356 := n0_
                 have BK365 := n1_
                 have BK371 := n2_
                 have BK372 := n3_
                 have HB := n4_
                 clear n0_ n1_ n2_ n3_ n4_
                 have n0_ := Aside0.mk (blk_drew BK356.out)
                 have n1_ := Aside0.mk (blk_drew BK365.out)
                 have n2_ := Aside0.mk (blk_drew BK371.out)
                 have n3_ := Aside0.mk (blk_drew BK372.out)
                 have n4_ := Aside0.mk (below_drew1 HB.out)
                 clear BK356
                 clear BK365
                 clear BK371
                 clear BK372
                 clear HB
                 have BK356 := n0_
                 have BK365 := n1_
                 have BK371 := n2_
                 have BK372 := n3_
                 have HB := n4_
                 clear n0_ n1_ n2_ n3_ n4_
                 refine start_ (n := 60) (S := fun w' => w'.cell? ⟨gb356, 0, none⟩ = some (.string t350) ∧ w'.cell? ⟨gb356, 1, none⟩ = some (.int .u64 t351) ∧ w'.cell? ⟨gb356, 2, none⟩ = some (.int .i64 t352) ∧ w'.cell? ⟨gb356, 3, none⟩ = some (.string t353) ∧ w'.cell? ⟨gb356, 4, none⟩ = some (.string t354) ∧ w'.cell? ⟨gb371, 0, none⟩ = some (.string t350) ∧ w'.cell? ⟨gb371, 1, none⟩ = some (.int .u64 (IntKind.u64.wrap (t351 + 1))) ∧ w'.cell? ⟨gb371, 2, none⟩ = some (.int .i64 t352) ∧ w'.cell? ⟨gb371, 3, none⟩ = some (.string t353) ∧ w'.cell? ⟨gb371, 4, none⟩ = some (.string t354) ∧ w'.cell? ⟨gb372, 0, none⟩ = some (.string t350) ∧ w'.cell? ⟨gb372, 1, none⟩ = some (.int .u64 t351) ∧ w'.cell? ⟨gb372, 2, none⟩ = some (.int .i64 (Int.tmod (wrap64 (t352 + 1)) 9)) ∧ w'.cell? ⟨gb372, 3, none⟩ = some (.string t353) ∧ w'.cell? ⟨gb372, 4, none⟩ = some (.string t354)) (ds := []) #[false, false, false, false, false, false, false, false, false, false, false, false, false, false, false, false, false, false, false, false, false, false, false, false, false, false, false, false, false, false, false, false, false, false, false, false, false, false, false, false, false, false, false, false, false, false, false, false, false, false, false, false, false, false, false, false, false, false, false, false] (by kernel_rfl) rfl rfl ⟨(blk_cell BK356.out 0).trans rfl, (blk_cell BK356.out 1).trans rfl, (blk_cell BK356.out 2).trans rfl, (blk_cell BK356.out 3).trans rfl, (blk_cell BK356.out 4).trans rfl, (blk_cell BK371.out 0).trans rfl, (blk_cell BK371.out 1).trans rfl, (blk_cell BK371.out 2).trans rfl, (blk_cell BK371.out 3).trans rfl, (blk_cell BK371.out 4).trans rfl, (blk_cell BK372.out 0).trans rfl, (blk_cell BK372.out 1).trans rfl, (blk_cell BK372.out 2).trans rfl, (blk_cell BK372.out 3).trans rfl, (blk_cell BK372.out 4).trans rfl⟩ (fun hHeld => ?_); refine with_tabW letterlocklaw11_FreshChecks.tab18 letterlocklaw11_FreshChecks.bits18 (fun HT_ HW_ => ?_)
                 generalize w74.drew = w75 at BK356 BK365 BK371 BK372 HB hHeld ⊢
                 refine pure_ (i := 1) (N := some 103) (v := ?_) (a' := ?_) #[false, true, false, false, false, false, false, false, false, false, false, false, false, false, false, false, false, false, false, false, false, false, false, false, false, false, false, false, false, false, false, false, false, false, false, false, false, false, false, false, false, false, false, false, false, false, false, false, false, false, false, false, false, false, false, false, false, false, false, false] rfl rfl (any_of HT_.out (by kernel_rfl)) (fun _ _ _ h => h) (Or.inl ⟨by rfl, ?_⟩) ?_ ?_
                 rotate_left
                 ·intro w'
                  go_simp
                  with_reducible rfl
                 rotate_left
                 ·simp only [Act.put, List.setIfInBounds_toArray, List.set_cons_zero, List.set_cons_succ, i64_w, i32_w]
                  rfl
                 refine pure_ (i := 3) (N := some 105) (v := ?_) (a' := ?_) #[false, true, false, true, false, false, false, false, false, false, false, false, false, false, false, false, false, false, false, false, false, false, false, false, false, false, false, false, false, false, false, false, false, false, false, false, false, false, false, false, false, false, false, false, false, false, false, false, false, false, false, false, false, false, false, false, false, false, false, false] rfl rfl (any_of HT_.out (by kernel_rfl)) (fun _ _ _ h => h) (Or.inl ⟨by rfl, ?_⟩) ?_ ?_
                 rotate_left
                 ·intro w'
                  go_simp
                  with_reducible rfl
                 rotate_left
                 ·simp only [Act.put, List.setIfInBounds_toArray, List.set_cons_zero, List.set_cons_succ, i64_w, i32_w]
                  rfl
                 refine pure_ (i := 4) (N := some 106) (v := ?_) (a' := ?_) #[false, true, false, true, true, false, false, false, false, false, false, false, false, false, false, false, false, false, false, false, false, false, false, false, false, false, false, false, false, false, false, false, false, false, false, false, false, false, false, false, false, false, false, false, false, false, false, false, false, false, false, false, false, false, false, false, false, false, false, false] rfl rfl (any_of HT_.out (by kernel_rfl)) (fun _ _ _ h => h) (Or.inl ⟨by rfl, ?_⟩) ?_ ?_
                 rotate_left
                 ·intro w'
                  go_simp
                  with_reducible rfl
                 rotate_left
                 ·simp only [Act.put, List.setIfInBounds_toArray, List.set_cons_zero, List.set_cons_succ, i64_w, i32_w]
                  rfl
                 refine pure_ (i := 5) (N := some 107) (v := ?_) (a' := ?_) #[false, true, false, true, true, true, false, false, false, false, false, false, false, false, false, false, false, false, false, false, false, false, false, false, false, false, false, false, false, false, false, false, false, false, false, false, false, false, false, false, false, false, false, false, false, false, false, false, false, false, false, false, false, false, false, false, false, false, false, false] rfl rfl (any_of HT_.out (by kernel_rfl)) (fun _ _ _ h => h) (Or.inl ⟨by rfl, ?_⟩) ?_ ?_
                 rotate_left
                 ·intro w'
                  go_simp
                  with_reducible rfl
                 rotate_left
                 ·simp only [Act.put, List.setIfInBounds_toArray, List.set_cons_zero, List.set_cons_succ, i64_w, i32_w]
                  rfl
                 refine pure_ (i := 7) (N := some 109) (v := ?_) (a' := ?_) #[false, true, false, true, true, true, false, true, false, false, false, false, false, false, false, false, false, false, false, false, false, false, false, false, false, false, false, false, false, false, false, false, false, false, false, false, false, false, false, false, false, false, false, false, false, false, false, false, false, false, false, false, false, false, false, false, false, false, false, false] rfl rfl (any_of HT_.out (by kernel_rfl)) (fun _ _ _ h => h) (Or.inl ⟨by rfl, ?_⟩) ?_ ?_
                 rotate_left
                 ·intro w'
                  go_simp
                  with_reducible rfl
                 rotate_left
                 ·simp only [Act.put, List.setIfInBounds_toArray, List.set_cons_zero, List.set_cons_succ, i64_w, i32_w]
                  rfl
                 refine take_ (i := 0) (N := some 102) (v := ?_) (a' := ?_) #[true, true, false, true, true, true, false, true, false, false, false, false, false, false, false, false, false, false, false, false, false, false, false, false, false, false, false, false, false, false, false, false, false, false, false, false, false, false, false, false, false, false, false, false, false, false, false, false, false, false, false, false, false, false, false, false, false, false, false, false] rfl rfl (take_ofW HT_.out HW_.out (by kernel_rfl)) (fun _ _ _ h => h) (Or.inl ⟨by rfl, ?_⟩) hHeld ?_ ?_
                 rotate_left
                 ·rintro w' ⟨s0, s1, s2, s3, s4, s5, s6, s7, s8, s9, s10, s11, s12, s13, s14⟩
                  go_simp
                  with_reducible rfl
                 rotate_left
                 ·simp only [Act.put, List.setIfInBounds_toArray, List.set_cons_zero, List.set_cons_succ, i64_w, i32_w]
                  rfl
                 refine one_ (i := 2) (N := some 104) #[true, true, true, true, true, true, false, true, false, false, false, false, false, false, false, false, false, false, false, false, false, false, false, false, false, false, false, false, false, false, false, false, false, false, false, false, false, false, false, false, false, false, false, false, false, false, false, false, false, false, false, false, false, false, false, false, false, false, false, false] rfl rfl (one_of HT_.out (by kernel_rfl)) (by decide) (fun K hK => ?_)
                 refine goes_ Tryd.func18 (by kernel_rfl) rfl #[.string t345] (by rfl) rfl rfl (by (try simp only [List.map_toArray, List.map_cons, List.map_nil]); first | done | rfl | (simp only [List.length_drop, List.length_take]; rfl)) ?_
                 with_reducible refine (letterlocklaw11_publicOf.calls kj39 t345 t373 _ A44.out).mono ?_
                 rintro e w76 ⟨rfl, hb⟩
                 refine ⟨_, rfl, ?_⟩
                 have n0_ := Aside0.mk (blk_below (g := gb356) (o := .cells #[.string t350, .int .u64 t351, .int .i64 t352, .string t353, .string t354] 28 (0, 0)) (by (with_reducible repeat (first | refine blk_drewN ?_ _ | refine blk_drew ?_ | refine blk_alloc ?_ _)); exact BK356.out) hb)
                 have n1_ := Aside0.mk (blk_below (g := gb365) (o := .cells #[.string t359, .int .u64 t360, .int .i64 t361, .string t362, .string t363] 28 (0, 0)) (by (with_reducible repeat (first | refine blk_drewN ?_ _ | refine blk_drew ?_ | refine blk_alloc ?_ _)); exact BK365.out) hb)
                 have n2_ := Aside0.mk (blk_below (g := gb371) (o := .cells #[.string t350, .int .u64 (IntKind.u64.wrap (t351 + 1)), .int .i64 t352, .string t353, .string t354] 28 (0, 0)) (by (with_reducible repeat (first | refine blk_drewN ?_ _ | refine blk_drew ?_ | refine blk_alloc ?_ _)); exact BK371.out) hb)
                 have n3_ := Aside0.mk (blk_below (g := gb372) (o := .cells #[.string t350, .int .u64 t351, .int .i64 (Int.tmod (wrap64 (t352 + 1)) 9), .string t353, .string t354] 28 (0, 0)) (by (with_reducible repeat (first | refine blk_drewN ?_ _ | refine blk_drew ?_ | refine blk_alloc ?_ _)); exact BK372.out) hb)
                 have n4_ := Aside0.mk (below_step (by repeat (first | (with_reducible first | exact HB.out | apply below_alloc | apply pw_below_drewN | apply below_drew1 | refine below_set ?_ GE356.out | refine below_set ?_ GE365.out | refine below_set ?_ GE371.out | refine below_set ?_ GE372.out) | exact HB.out)) hb)
                 clear BK356
                 clear BK365
                 clear BK371
                 clear BK372
                 clear HB
                 have BK356 := n0_
                 have BK365 := n1_
                 have BK371 := n2_
                 have BK372 := n3_
                 have HB := n4_
                 clear n0_ n1_ n2_ n3_ n4_
                 (try clear hb)
                 (try clear hb2)
                 (try clear hk)
                 (try clear hi)
                 refine hK.out _ _ ⟨(blk_cell BK356.out 0).trans rfl, (blk_cell BK356.out 1).trans rfl, (blk_cell BK356.out 2).trans rfl, (blk_cell BK356.out 3).trans rfl, (blk_cell BK356.out 4).trans rfl, (blk_cell BK371.out 0).trans rfl, (blk_cell BK371.out 1).trans rfl, (blk_cell BK371.out 2).trans rfl, (blk_cell BK371.out 3).trans rfl, (blk_cell BK371.out 4).trans rfl, (blk_cell BK372.out 0).trans rfl, (blk_cell BK372.out 1).trans rfl, (blk_cell BK372.out 2).trans rfl, (blk_cell BK372.out 3).trans rfl, (blk_cell BK372.out 4).trans rfl⟩ (fun hHeld => ?_)
                 clear hK K
                 refine norm_ (a' := ?_) ?_ ?_
                 rotate_left
                 ·show Act.put _ (some 104) _ = _
                  simp only [Act.put, List.setIfInBounds_toArray, List.set_cons_zero, List.set_cons_succ, i64_w, i32_w]
                  rfl
                 refine one_ (i := 6) (N := some 108) #[true, true, true, true, true, true, true, true, false, false, false, false, false, false, false, false, false, false, false, false, false, false, false, false, false, false, false, false, false, false, false, false, false, false, false, false, false, false, false, false, false, false, false, false, false, false, false, false, false, false, false, false, false, false, false, false, false, false, false, false] rfl rfl (one_of HT_.out (by kernel_rfl)) (by decide) (fun K hK => ?_)
                 refine goes_ Tryd.func17 (by kernel_rfl) rfl #[.agg #[.string t350, .int .u64 t351, .int .i64 t352, .string t353, .string t354], .string t373, .string t345, .int .u64 a2, .int .u64 a3] (by rfl) rfl rfl (by (try simp only [List.map_toArray, List.map_cons, List.map_nil]); first | done | rfl | (simp only [List.length_drop, List.length_take]; rfl)) ?_
                 with_reducible refine (fresh_Check.calls kj39 t350 t351 t352 t353 t354 t373 t345 a2 a3 t374 _ A45.out ?sidev).mono ?_
                 case sidev => exact Laid8.below HV.out (by repeat (first | (with_reducible first | exact HB.out | apply below_alloc | apply pw_below_drewN | apply below_drew1 | refine below_set ?_ GE356.out | refine below_set ?_ GE365.out | refine below_set ?_ GE371.out | refine below_set ?_ GE372.out) | exact HB.out))
                 rintro e w77 ⟨rfl, hb⟩
                 refine ⟨_, rfl, ?_⟩
                 have n0_ := Aside0.mk (blk_below (g := gb356) (o := .cells #[.string t350, .int .u64 t351, .int .i64 t352, .string t353, .string t354] 28 (0, 0)) (by (with_reducible repeat (first | refine blk_drewN ?_ _ | refine blk_drew ?_ | refine blk_alloc ?_ _)); exact BK356.out) hb)
                 have n1_ := Aside0.mk (blk_below (g := gb365) (o := .cells #[.string t359, .int .u64 t360, .int .i64 t361, .string t362, .string t363] 28 (0, 0)) (by (with_reducible repeat (first | refine blk_drewN ?_ _ | refine blk_drew ?_ | refine blk_alloc ?_ _)); exact BK365.out) hb)
                 have n2_ := Aside0.mk (blk_below (g := gb371) (o := .cells #[.string t350, .int .u64 (IntKind.u64.wrap (t351 + 1)), .int .i64 t352, .string t353, .string t354] 28 (0, 0)) (by (with_reducible repeat (first | refine blk_drewN ?_ _ | refine blk_drew ?_ | refine blk_alloc ?_ _)); exact BK371.out) hb)
                 have n3_ := Aside0.mk (blk_below (g := gb372) (o := .cells #[.string t350, .int .u64 t351, .int .i64 (Int.tmod (wrap64 (t352 + 1)) 9), .string t353, .string t354] 28 (0, 0)) (by (with_reducible repeat (first | refine blk_drewN ?_ _ | refine blk_drew ?_ | refine blk_alloc ?_ _)); exact BK372.out) hb)
                 have n4_ := Aside0.mk (below_step (by repeat (first | (with_reducible first | exact HB.out | apply below_alloc | apply pw_below_drewN | apply below_drew1 | refine below_set ?_ GE356.out | refine below_set ?_ GE365.out | refine below_set ?_ GE371.out | refine below_set ?_ GE372.out) | exact HB.out)) hb)
                 clear BK356
                 clear BK365
                 clear BK371
                 clear BK372
                 clear HB
                 have BK356 := n0_
                 have BK365 := n1_
                 have BK371 := n2_
                 have BK372 := n3_
                 have HB := n4_
                 clear n0_ n1_ n2_ n3_ n4_
                 (try clear hb)
                 (try clear hb2)
                 (try clear hk)
                 (try clear hi)
                 refine hK.out _ _ ⟨(blk_cell BK356.out 0).trans rfl, (blk_cell BK356.out 1).trans rfl, (blk_cell BK356.out 2).trans rfl, (blk_cell BK356.out 3).trans rfl, (blk_cell BK356.out 4).trans rfl, (blk_cell BK371.out 0).trans rfl, (blk_cell BK371.out 1).trans rfl, (blk_cell BK371.out 2).trans rfl, (blk_cell BK371.out 3).trans rfl, (blk_cell BK371.out 4).trans rfl, (blk_cell BK372.out 0).trans rfl, (blk_cell BK372.out 1).trans rfl, (blk_cell BK372.out 2).trans rfl, (blk_cell BK372.out 3).trans rfl, (blk_cell BK372.out 4).trans rfl⟩ (fun hHeld => ?_)
                 clear hK K
                 refine norm_ (a' := ?_) ?_ ?_
                 rotate_left
                 ·show Act.put _ (some 108) _ = _
                  simp only [Act.put, List.setIfInBounds_toArray, List.set_cons_zero, List.set_cons_succ, i64_w, i32_w]
                  rfl
                 refine pure_ (i := 8) (N := some 110) (v := ?_) (a' := ?_) #[true, true, true, true, true, true, true, true, true, false, false, false, false, false, false, false, false, false, false, false, false, false, false, false, false, false, false, false, false, false, false, false, false, false, false, false, false, false, false, false, false, false, false, false, false, false, false, false, false, false, false, false, false, false, false, false, false, false, false, false] rfl rfl (any_of HT_.out (by kernel_rfl)) (fun _ _ _ h => h) (Or.inl ⟨by rfl, ?_⟩) ?_ ?_
                 rotate_left
                 ·intro w'
                  go_simp
                  with_reducible rfl
                 rotate_left
                 ·simp only [Act.put, List.setIfInBounds_toArray, List.set_cons_zero, List.set_cons_succ, i64_w, i32_w]
                  rfl
                 refine pure_ (i := 9) (N := some 111) (v := ?_) (a' := ?_) #[true, true, true, true, true, true, true, true, true, true, false, false, false, false, false, false, false, false, false, false, false, false, false, false, false, false, false, false, false, false, false, false, false, false, false, false, false, false, false, false, false, false, false, false, false, false, false, false, false, false, false, false, false, false, false, false, false, false, false, false] rfl rfl (any_of HT_.out (by kernel_rfl)) (fun _ _ _ h => h) (Or.inl ⟨by rfl, ?_⟩) ?_ ?_
                 rotate_left
                 ·intro w'
                  go_simp
                  with_reducible rfl
                 rotate_left
                 ·simp only [Act.put, List.setIfInBounds_toArray, List.set_cons_zero, List.set_cons_succ, i64_w, i32_w]
                  rfl
                 refine pure_ (i := 11) (N := some 113) (v := ?_) (a' := ?_) #[true, true, true, true, true, true, true, true, true, true, false, true, false, false, false, false, false, false, false, false, false, false, false, false, false, false, false, false, false, false, false, false, false, false, false, false, false, false, false, false, false, false, false, false, false, false, false, false, false, false, false, false, false, false, false, false, false, false, false, false] rfl rfl (any_of HT_.out (by kernel_rfl)) (fun _ _ _ h => h) (Or.inl ⟨by rfl, ?_⟩) ?_ ?_
                 rotate_left
                 ·intro w'
                  go_simp
                  with_reducible rfl
                 rotate_left
                 ·simp only [Act.put, List.setIfInBounds_toArray, List.set_cons_zero, List.set_cons_succ, i64_w, i32_w]
                  rfl
                 refine pure_ (i := 13) (N := some 115) (v := ?_) (a' := ?_) #[true, true, true, true, true, true, true, true, true, true, false, true, false, true, false, false, false, false, false, false, false, false, false, false, false, false, false, false, false, false, false, false, false, false, false, false, false, false, false, false, false, false, false, false, false, false, false, false, false, false, false, false, false, false, false, false, false, false, false, false] rfl rfl (any_of HT_.out (by kernel_rfl)) (fun _ _ _ h => h) (Or.inl ⟨by rfl, ?_⟩) ?_ ?_
                 rotate_left
                 ·intro w'
                  go_simp
                  with_reducible rfl
                 rotate_left
                 ·simp only [Act.put, List.setIfInBounds_toArray, List.set_cons_zero, List.set_cons_succ, i64_w, i32_w]
                  rfl
                 refine pure_ (i := 14) (N := some 116) (v := ?_) (a' := ?_) #[true, true, true, true, true, true, true, true, true, true, false, true, false, true, true, false, false, false, false, false, false, false, false, false, false, false, false, false, false, false, false, false, false, false, false, false, false, false, false, false, false, false, false, false, false, false, false, false, false, false, false, false, false, false, false, false, false, false, false, false] rfl rfl (any_of HT_.out (by kernel_rfl)) (fun _ _ _ h => h) (Or.inl ⟨by rfl, ?_⟩) ?_ ?_
                 rotate_left
                 ·intro w'
                  go_simp
                  with_reducible rfl
                 rotate_left
                 ·simp only [Act.put, List.setIfInBounds_toArray, List.set_cons_zero, List.set_cons_succ, i64_w, i32_w]
                  rfl
                 refine pure_ (i := 15) (N := some 117) (v := ?_) (a' := ?_) #[true, true, true, true, true, true, true, true, true, true, false, true, false, true, true, true, false, false, false, false, false, false, false, false, false, false, false, false, false, false, false, false, false, false, false, false, false, false, false, false, false, false, false, false, false, false, false, false, false, false, false, false, false, false, false, false, false, false, false, false] rfl rfl (any_of HT_.out (by kernel_rfl)) (fun _ _ _ h => h) (Or.inl ⟨by rfl, ?_⟩) ?_ ?_
                 rotate_left
                 ·intro w'
                  go_simp
                  with_reducible rfl
                 rotate_left
                 ·simp only [Act.put, List.setIfInBounds_toArray, List.set_cons_zero, List.set_cons_succ, i64_w, i32_w]
                  rfl
                 refine take_ (i := 10) (N := some 112) (v := ?_) (a' := ?_) #[true, true, true, true, true, true, true, true, true, true, true, true, false, true, true, true, false, false, false, false, false, false, false, false, false, false, false, false, false, false, false, false, false, false, false, false, false, false, false, false, false, false, false, false, false, false, false, false, false, false, false, false, false, false, false, false, false, false, false, false] rfl rfl (take_ofW HT_.out HW_.out (by kernel_rfl)) (fun _ _ _ h => h) (Or.inl ⟨by rfl, ?_⟩) hHeld ?_ ?_
                 rotate_left
                 ·rintro w' ⟨s0, s1, s2, s3, s4, s5, s6, s7, s8, s9, s10, s11, s12, s13, s14⟩
                  go_simp
                  with_reducible rfl
                 rotate_left
                 ·simp only [Act.put, List.setIfInBounds_toArray, List.set_cons_zero, List.set_cons_succ, i64_w, i32_w]
                  rfl
                 refine one_ (i := 12) (N := some 114) #[true, true, true, true, true, true, true, true, true, true, true, true, true, true, true, true, false, false, false, false, false, false, false, false, false, false, false, false, false, false, false, false, false, false, false, false, false, false, false, false, false, false, false, false, false, false, false, false, false, false, false, false, false, false, false, false, false, false, false, false] rfl rfl (one_of HT_.out (by kernel_rfl)) (by decide) (fun K hK => ?_)
                 refine goes_ Tryd.func18 (by kernel_rfl) rfl #[.string t370] (by rfl) rfl rfl (by (try simp only [List.map_toArray, List.map_cons, List.map_nil]); first | done | rfl | (simp only [List.length_drop, List.length_take]; rfl)) ?_
                 with_reducible refine (letterlocklaw11_publicOf.calls kj39 t370 t375 _ A47.out).mono ?_
                 rintro e w78 ⟨rfl, hb⟩
                 refine ⟨_, rfl, ?_⟩
                 have n0_ := Aside0.mk (blk_below (g := gb356) (o := .cells #[.string t350, .int .u64 t351, .int .i64 t352, .string t353, .string t354] 28 (0, 0)) (by (with_reducible repeat (first | refine blk_drewN ?_ _ | refine blk_drew ?_ | refine blk_alloc ?_ _)); exact BK356.out) hb)
                 have n1_ := Aside0.mk (blk_below (g := gb365) (o := .cells #[.string t359, .int .u64 t360, .int .i64 t361, .string t362, .string t363] 28 (0, 0)) (by (with_reducible repeat (first | refine blk_drewN ?_ _ | refine blk_drew ?_ | refine blk_alloc ?_ _)); exact BK365.out) hb)
                 have n2_ := Aside0.mk (blk_below (g := gb371) (o := .cells #[.string t350, .int .u64 (IntKind.u64.wrap (t351 + 1)), .int .i64 t352, .string t353, .string t354] 28 (0, 0)) (by (with_reducible repeat (first | refine blk_drewN ?_ _ | refine blk_drew ?_ | refine blk_alloc ?_ _)); exact BK371.out) hb)
                 have n3_ := Aside0.mk (blk_below (g := gb372) (o := .cells #[.string t350, .int .u64 t351, .int .i64 (Int.tmod (wrap64 (t352 + 1)) 9), .string t353, .string t354] 28 (0, 0)) (by (with_reducible repeat (first | refine blk_drewN ?_ _ | refine blk_drew ?_ | refine blk_alloc ?_ _)); exact BK372.out) hb)
                 have n4_ := Aside0.mk (below_step (by repeat (first | (with_reducible first | exact HB.out | apply below_alloc | apply pw_below_drewN | apply below_drew1 | refine below_set ?_ GE356.out | refine below_set ?_ GE365.out | refine below_set ?_ GE371.out | refine below_set ?_ GE372.out) | exact HB.out)) hb)
                 clear BK356
                 clear BK365
                 clear BK371
                 clear BK372
                 clear HB
                 have BK356 := n0_
                 have BK365 := n1_
                 have BK371 := n2_
                 have BK372 := n3_
                 have HB := n4_
                 clear n0_ n1_ n2_ n3_ n4_
                 (try clear hb)
                 (try clear hb2)
                 (try clear hk)
                 (try clear hi)
                 refine hK.out _ _ ⟨(blk_cell BK356.out 0).trans rfl, (blk_cell BK356.out 1).trans rfl, (blk_cell BK356.out 2).trans rfl, (blk_cell BK356.out 3).trans rfl, (blk_cell BK356.out 4).trans rfl, (blk_cell BK371.out 0).trans rfl, (blk_cell BK371.out 1).trans rfl, (blk_cell BK371.out 2).trans rfl, (blk_cell BK371.out 3).trans rfl, (blk_cell BK371.out 4).trans rfl, (blk_cell BK372.out 0).trans rfl, (blk_cell BK372.out 1).trans rfl, (blk_cell BK372.out 2).trans rfl, (blk_cell BK372.out 3).trans rfl, (blk_cell BK372.out 4).trans rfl⟩ (fun hHeld => ?_)
                 clear hK K
                 refine norm_ (a' := ?_) ?_ ?_
                 rotate_left
                 ·show Act.put _ (some 114) _ = _
                  simp only [Act.put, List.setIfInBounds_toArray, List.set_cons_zero, List.set_cons_succ, i64_w, i32_w]
                  rfl
                 refine one_ (i := 16) (N := some 118) #[true, true, true, true, true, true, true, true, true, true, true, true, true, true, true, true, true, false, false, false, false, false, false, false, false, false, false, false, false, false, false, false, false, false, false, false, false, false, false, false, false, false, false, false, false, false, false, false, false, false, false, false, false, false, false, false, false, false, false, false] rfl rfl (one_of HT_.out (by kernel_rfl)) (by decide) (fun K hK => ?_)
                 refine goes_ Tryd.func17 (by kernel_rfl) rfl #[.agg #[.string t350, .int .u64 t351, .int .i64 t352, .string t353, .string t354], .string t375, .string t345, .int .u64 a2, .int .u64 a3] (by rfl) rfl rfl (by (try simp only [List.map_toArray, List.map_cons, List.map_nil]); first | done | rfl | (simp only [List.length_drop, List.length_take]; rfl)) ?_
                 with_reducible refine (fresh_Check.calls kj39 t350 t351 t352 t353 t354 t375 t345 a2 a3 t376 _ A48.out ?sidev).mono ?_
                 case sidev => exact Laid8.below HV.out (by repeat (first | (with_reducible first | exact HB.out | apply below_alloc | apply pw_below_drewN | apply below_drew1 | refine below_set ?_ GE356.out | refine below_set ?_ GE365.out | refine below_set ?_ GE371.out | refine below_set ?_ GE372.out) | exact HB.out))
                 rintro e w79 ⟨rfl, hb⟩
                 refine ⟨_, rfl, ?_⟩
                 have n0_ := Aside0.mk (blk_below (g := gb356) (o := .cells #[.string t350, .int .u64 t351, .int .i64 t352, .string t353, .string t354] 28 (0, 0)) (by (with_reducible repeat (first | refine blk_drewN ?_ _ | refine blk_drew ?_ | refine blk_alloc ?_ _)); exact BK356.out) hb)
                 have n1_ := Aside0.mk (blk_below (g := gb365) (o := .cells #[.string t359, .int .u64 t360, .int .i64 t361, .string t362, .string t363] 28 (0, 0)) (by (with_reducible repeat (first | refine blk_drewN ?_ _ | refine blk_drew ?_ | refine blk_alloc ?_ _)); exact BK365.out) hb)
                 have n2_ := Aside0.mk (blk_below (g := gb371) (o := .cells #[.string t350, .int .u64 (IntKind.u64.wrap (t351 + 1)), .int .i64 t352, .string t353, .string t354] 28 (0, 0)) (by (with_reducible repeat (first | refine blk_drewN ?_ _ | refine blk_drew ?_ | refine blk_alloc ?_ _)); exact BK371.out) hb)
                 have n3_ := Aside0.mk (blk_below (g := gb372) (o := .cells #[.string t350, .int .u64 t351, .int .i64 (Int.tmod (wrap64 (t352 + 1)) 9), .string t353, .string t354] 28 (0, 0)) (by (with_reducible repeat (first | refine blk_drewN ?_ _ | refine blk_drew ?_ | refine blk_alloc ?_ _)); exact BK372.out) hb)
                 have n4_ := Aside0.mk (below_step (by repeat (first | (with_reducible first | exact HB.out | apply below_alloc | apply pw_below_drewN | apply below_drew1 | refine below_set ?_ GE356.out | refine below_set ?_ GE365.out | refine below_set ?_ GE371.out | refine below_set ?_ GE372.out) | exact HB.out)) hb)
                 clear BK356
                 clear BK365
                 clear BK371
                 clear BK372
                 clear HB
                 have BK356 := n0_
                 have BK365 := n1_
                 have BK371 := n2_
                 have BK372 := n3_
                 have HB := n4_
                 clear n0_ n1_ n2_ n3_ n4_
                 (try clear hb)
                 (try clear hb2)
                 (try clear hk)
                 (try clear hi)
                 refine hK.out _ _ ⟨(blk_cell BK356.out 0).trans rfl, (blk_cell BK356.out 1).trans rfl, (blk_cell BK356.out 2).trans rfl, (blk_cell BK356.out 3).trans rfl, (blk_cell BK356.out 4).trans rfl, (blk_cell BK371.out 0).trans rfl, (blk_cell BK371.out 1).trans rfl, (blk_cell BK371.out 2).trans rfl, (blk_cell BK371.out 3).trans rfl, (blk_cell BK371.out 4).trans rfl, (blk_cell BK372.out 0).trans rfl, (blk_cell BK372.out 1).trans rfl, (blk_cell BK372.out 2).trans rfl, (blk_cell BK372.out 3).trans rfl, (blk_cell BK372.out 4).trans rfl⟩ (fun hHeld => ?_)
                 clear hK K
                 refine norm_ (a' := ?_) ?_ ?_
                 rotate_left
                 ·show Act.put _ (some 118) _ = _
                  simp only [Act.put, List.setIfInBounds_toArray, List.set_cons_zero, List.set_cons_succ, i64_w, i32_w]
                  rfl
                 refine pure_ (i := 17) (N := some 119) (v := ?_) (a' := ?_) #[true, true, true, true, true, true, true, true, true, true, true, true, true, true, true, true, true, true, false, false, false, false, false, false, false, false, false, false, false, false, false, false, false, false, false, false, false, false, false, false, false, false, false, false, false, false, false, false, false, false, false, false, false, false, false, false, false, false, false, false] rfl rfl (any_of HT_.out (by kernel_rfl)) (fun _ _ _ h => h) (Or.inl ⟨by rfl, ?_⟩) ?_ ?_
                 rotate_left
                 ·intro w'
                  go_simp
                  with_reducible rfl
                 rotate_left
                 ·simp only [Act.put, List.setIfInBounds_toArray, List.set_cons_zero, List.set_cons_succ, i64_w, i32_w]
                  rfl
                 refine pure_ (i := 18) (N := some 120) (v := ?_) (a' := ?_) #[true, true, true, true, true, true, true, true, true, true, true, true, true, true, true, true, true, true, true, false, false, false, false, false, false, false, false, false, false, false, false, false, false, false, false, false, false, false, false, false, false, false, false, false, false, false, false, false, false, false, false, false, false, false, false, false, false, false, false, false] rfl rfl (any_of HT_.out (by kernel_rfl)) (fun _ _ _ h => h) (Or.inl ⟨by rfl, ?_⟩) ?_ ?_
                 rotate_left
                 ·intro w'
                  go_simp
                  with_reducible rfl
                 rotate_left
                 ·simp only [Act.put, List.setIfInBounds_toArray, List.set_cons_zero, List.set_cons_succ, i64_w, i32_w]
                  rfl
                 refine pure_ (i := 19) (N := some 121) (v := ?_) (a' := ?_) #[true, true, true, true, true, true, true, true, true, true, true, true, true, true, true, true, true, true, true, true, false, false, false, false, false, false, false, false, false, false, false, false, false, false, false, false, false, false, false, false, false, false, false, false, false, false, false, false, false, false, false, false, false, false, false, false, false, false, false, false] rfl rfl (any_of HT_.out (by kernel_rfl)) (fun _ _ _ h => h) (Or.inl ⟨by rfl, ?_⟩) ?_ ?_
                 rotate_left
                 ·intro w'
                  go_simp
                  with_reducible rfl
                 rotate_left
                 ·simp only [Act.put, List.setIfInBounds_toArray, List.set_cons_zero, List.set_cons_succ, i64_w, i32_w]
                  rfl
                 refine pure_ (i := 21) (N := some 123) (v := ?_) (a' := ?_) #[true, true, true, true, true, true, true, true, true, true, true, true, true, true, true, true, true, true, true, true, false, true, false, false, false, false, false, false, false, false, false, false, false, false, false, false, false, false, false, false, false, false, false, false, false, false, false, false, false, false, false, false, false, false, false, false, false, false, false, false] rfl rfl (any_of HT_.out (by kernel_rfl)) (fun _ _ _ h => h) (Or.inl ⟨by rfl, ?_⟩) ?_ ?_
                 rotate_left
                 ·intro w'
                  go_simp
                  with_reducible rfl
                 rotate_left
                 ·simp only [Act.put, List.setIfInBounds_toArray, List.set_cons_zero, List.set_cons_succ, i64_w, i32_w]
                  rfl
                 refine pure_ (i := 23) (N := some 125) (v := ?_) (a' := ?_) #[true, true, true, true, true, true, true, true, true, true, true, true, true, true, true, true, true, true, true, true, false, true, false, true, false, false, false, false, false, false, false, false, false, false, false, false, false, false, false, false, false, false, false, false, false, false, false, false, false, false, false, false, false, false, false, false, false, false, false, false] rfl rfl (any_of HT_.out (by kernel_rfl)) (fun _ _ _ h => h) (Or.inl ⟨by rfl, ?_⟩) ?_ ?_
                 rotate_left
                 ·intro w'
                  go_simp
                  with_reducible rfl
                 rotate_left
                 ·simp only [Act.put, List.setIfInBounds_toArray, List.set_cons_zero, List.set_cons_succ, i64_w, i32_w]
                  rfl
                 refine pure_ (i := 24) (N := some 126) (v := ?_) (a' := ?_) #[true, true, true, true, true, true, true, true, true, true, true, true, true, true, true, true, true, true, true, true, false, true, false, true, true, false, false, false, false, false, false, false, false, false, false, false, false, false, false, false, false, false, false, false, false, false, false, false, false, false, false, false, false, false, false, false, false, false, false, false] rfl rfl (any_of HT_.out (by kernel_rfl)) (fun _ _ _ h => h) (Or.inl ⟨by rfl, ?_⟩) ?_ ?_
                 rotate_left
                 ·intro w'
                  go_simp
                  with_reducible rfl
                 rotate_left
                 ·simp only [Act.put, List.setIfInBounds_toArray, List.set_cons_zero, List.set_cons_succ, i64_w, i32_w]
                  rfl
                 refine pure_ (i := 25) (N := some 127) (v := ?_) (a' := ?_) #[true, true, true, true, true, true, true, true, true, true, true, true, true, true, true, true, true, true, true, true, false, true, false, true, true, true, false, false, false, false, false, false, false, false, false, false, false, false, false, false, false, false, false, false, false, false, false, false, false, false, false, false, false, false, false, false, false, false, false, false] rfl rfl (any_of HT_.out (by kernel_rfl)) (fun _ _ _ h => h) (Or.inl ⟨by rfl, ?_⟩) ?_ ?_
                 rotate_left
                 ·intro w'
                  go_simp
                  with_reducible rfl
                 rotate_left
                 ·simp only [Act.put, List.setIfInBounds_toArray, List.set_cons_zero, List.set_cons_succ, i64_w, i32_w]
                  rfl
                 refine take_ (i := 20) (N := some 122) (v := ?_) (a' := ?_) #[true, true, true, true, true, true, true, true, true, true, true, true, true, true, true, true, true, true, true, true, true, true, false, true, true, true, false, false, false, false, false, false, false, false, false, false, false, false, false, false, false, false, false, false, false, false, false, false, false, false, false, false, false, false, false, false, false, false, false, false] rfl rfl (take_ofW HT_.out HW_.out (by kernel_rfl)) (fun _ _ _ h => h) (Or.inl ⟨by rfl, ?_⟩) hHeld ?_ ?_
                 rotate_left
                 ·rintro w' ⟨s0, s1, s2, s3, s4, s5, s6, s7, s8, s9, s10, s11, s12, s13, s14⟩
                  go_simp
                  with_reducible rfl
                 rotate_left
                 ·simp only [Act.put, List.setIfInBounds_toArray, List.set_cons_zero, List.set_cons_succ, i64_w, i32_w]
                  rfl
                 refine one_ (i := 22) (N := some 124) #[true, true, true, true, true, true, true, true, true, true, true, true, true, true, true, true, true, true, true, true, true, true, true, true, true, true, false, false, false, false, false, false, false, false, false, false, false, false, false, false, false, false, false, false, false, false, false, false, false, false, false, false, false, false, false, false, false, false, false, false] rfl rfl (one_of HT_.out (by kernel_rfl)) (by decide) (fun K hK => ?_)
                 refine goes_ Tryd.func18 (by kernel_rfl) rfl #[.string t345] (by rfl) rfl rfl (by (try simp only [List.map_toArray, List.map_cons, List.map_nil]); first | done | rfl | (simp only [List.length_drop, List.length_take]; rfl)) ?_
                 with_reducible refine (letterlocklaw11_publicOf.calls kj39 t345 t377 _ A50.out).mono ?_
                 rintro e w80 ⟨rfl, hb⟩
                 refine ⟨_, rfl, ?_⟩
                 have n0_ := Aside0.mk (blk_below (g := gb356) (o := .cells #[.string t350, .int .u64 t351, .int .i64 t352, .string t353, .string t354] 28 (0, 0)) (by (with_reducible repeat (first | refine blk_drewN ?_ _ | refine blk_drew ?_ | refine blk_alloc ?_ _)); exact BK356.out) hb)
                 have n1_ := Aside0.mk (blk_below (g := gb365) (o := .cells #[.string t359, .int .u64 t360, .int .i64 t361, .string t362, .string t363] 28 (0, 0)) (by (with_reducible repeat (first | refine blk_drewN ?_ _ | refine blk_drew ?_ | refine blk_alloc ?_ _)); exact BK365.out) hb)
                 have n2_ := Aside0.mk (blk_below (g := gb371) (o := .cells #[.string t350, .int .u64 (IntKind.u64.wrap (t351 + 1)), .int .i64 t352, .string t353, .string t354] 28 (0, 0)) (by (with_reducible repeat (first | refine blk_drewN ?_ _ | refine blk_drew ?_ | refine blk_alloc ?_ _)); exact BK371.out) hb)
                 have n3_ := Aside0.mk (blk_below (g := gb372) (o := .cells #[.string t350, .int .u64 t351, .int .i64 (Int.tmod (wrap64 (t352 + 1)) 9), .string t353, .string t354] 28 (0, 0)) (by (with_reducible repeat (first | refine blk_drewN ?_ _ | refine blk_drew ?_ | refine blk_alloc ?_ _)); exact BK372.out) hb)
                 have n4_ := Aside0.mk (below_step (by repeat (first | (with_reducible first | exact HB.out | apply below_alloc | apply pw_below_drewN | apply below_drew1 | refine below_set ?_ GE356.out | refine below_set ?_ GE365.out | refine below_set ?_ GE371.out | refine below_set ?_ GE372.out) | exact HB.out)) hb)
                 clear BK356
                 clear BK365
                 clear BK371
                 clear BK372
                 clear HB
                 have BK356 := n0_
                 have BK365 := n1_
                 have BK371 := n2_
                 have BK372 := n3_
                 have HB := n4_
                 clear n0_ n1_ n2_ n3_ n4_
                 (try clear hb)
                 (try clear hb2)
                 (try clear hk)
                 (try clear hi)
                 refine hK.out _ _ ⟨(blk_cell BK356.out 0).trans rfl, (blk_cell BK356.out 1).trans rfl, (blk_cell BK356.out 2).trans rfl, (blk_cell BK356.out 3).trans rfl, (blk_cell BK356.out 4).trans rfl, (blk_cell BK371.out 0).trans rfl, (blk_cell BK371.out 1).trans rfl, (blk_cell BK371.out 2).trans rfl, (blk_cell BK371.out 3).trans rfl, (blk_cell BK371.out 4).trans rfl, (blk_cell BK372.out 0).trans rfl, (blk_cell BK372.out 1).trans rfl, (blk_cell BK372.out 2).trans rfl, (blk_cell BK372.out 3).trans rfl, (blk_cell BK372.out 4).trans rfl⟩ (fun hHeld => ?_)
                 clear hK K
                 refine norm_ (a' := ?_) ?_ ?_
                 rotate_left
                 ·show Act.put _ (some 124) _ = _
                  simp only [Act.put, List.setIfInBounds_toArray, List.set_cons_zero, List.set_cons_succ, i64_w, i32_w]
                  rfl
                 refine one_ (i := 26) (N := some 128) #[true, true, true, true, true, true, true, true, true, true, true, true, true, true, true, true, true, true, true, true, true, true, true, true, true, true, true, false, false, false, false, false, false, false, false, false, false, false, false, false, false, false, false, false, false, false, false, false, false, false, false, false, false, false, false, false, false, false, false, false] rfl rfl (one_of HT_.out (by kernel_rfl)) (by decide) (fun K hK => ?_)
                 refine goes_ Tryd.func17 (by kernel_rfl) rfl #[.agg #[.string t350, .int .u64 t351, .int .i64 t352, .string t353, .string t354], .string t377, .string t370, .int .u64 a2, .int .u64 a3] (by rfl) rfl rfl (by (try simp only [List.map_toArray, List.map_cons, List.map_nil]); first | done | rfl | (simp only [List.length_drop, List.length_take]; rfl)) ?_
                 with_reducible refine (fresh_Check.calls kj39 t350 t351 t352 t353 t354 t377 t370 a2 a3 t378 _ A51.out ?sidev).mono ?_
                 case sidev => exact Laid8.below HV.out (by repeat (first | (with_reducible first | exact HB.out | apply below_alloc | apply pw_below_drewN | apply below_drew1 | refine below_set ?_ GE356.out | refine below_set ?_ GE365.out | refine below_set ?_ GE371.out | refine below_set ?_ GE372.out) | exact HB.out))
                 rintro e w81 ⟨rfl, hb⟩
                 refine ⟨_, rfl, ?_⟩
                 have n0_ := Aside0.mk (blk_below (g := gb356) (o := .cells #[.string t350, .int .u64 t351, .int .i64 t352, .string t353, .string t354] 28 (0, 0)) (by (with_reducible repeat (first | refine blk_drewN ?_ _ | refine blk_drew ?_ | refine blk_alloc ?_ _)); exact BK356.out) hb)
                 have n1_ := Aside0.mk (blk_below (g := gb365) (o := .cells #[.string t359, .int .u64 t360, .int .i64 t361, .string t362, .string t363] 28 (0, 0)) (by (with_reducible repeat (first | refine blk_drewN ?_ _ | refine blk_drew ?_ | refine blk_alloc ?_ _)); exact BK365.out) hb)
                 have n2_ := Aside0.mk (blk_below (g := gb371) (o := .cells #[.string t350, .int .u64 (IntKind.u64.wrap (t351 + 1)), .int .i64 t352, .string t353, .string t354] 28 (0, 0)) (by (with_reducible repeat (first | refine blk_drewN ?_ _ | refine blk_drew ?_ | refine blk_alloc ?_ _)); exact BK371.out) hb)
                 have n3_ := Aside0.mk (blk_below (g := gb372) (o := .cells #[.string t350, .int .u64 t351, .int .i64 (Int.tmod (wrap64 (t352 + 1)) 9), .string t353, .string t354] 28 (0, 0)) (by (with_reducible repeat (first | refine blk_drewN ?_ _ | refine blk_drew ?_ | refine blk_alloc ?_ _)); exact BK372.out) hb)
                 have n4_ := Aside0.mk (below_step (by repeat (first | (with_reducible first | exact HB.out | apply below_alloc | apply pw_below_drewN | apply below_drew1 | refine below_set ?_ GE356.out | refine below_set ?_ GE365.out | refine below_set ?_ GE371.out | refine below_set ?_ GE372.out) | exact HB.out)) hb)
                 clear BK356
                 clear BK365
                 clear BK371
                 clear BK372
                 clear HB
                 have BK356 := n0_
                 have BK365 := n1_
                 have BK371 := n2_
                 have BK372 := n3_
                 have HB := n4_
                 clear n0_ n1_ n2_ n3_ n4_
                 (try clear hb)
                 (try clear hb2)
                 (try clear hk)
                 (try clear hi)
                 refine hK.out _ _ ⟨(blk_cell BK356.out 0).trans rfl, (blk_cell BK356.out 1).trans rfl, (blk_cell BK356.out 2).trans rfl, (blk_cell BK356.out 3).trans rfl, (blk_cell BK356.out 4).trans rfl, (blk_cell BK371.out 0).trans rfl, (blk_cell BK371.out 1).trans rfl, (blk_cell BK371.out 2).trans rfl, (blk_cell BK371.out 3).trans rfl, (blk_cell BK371.out 4).trans rfl, (blk_cell BK372.out 0).trans rfl, (blk_cell BK372.out 1).trans rfl, (blk_cell BK372.out 2).trans rfl, (blk_cell BK372.out 3).trans rfl, (blk_cell BK372.out 4).trans rfl⟩ (fun hHeld => ?_)
                 clear hK K
                 refine norm_ (a' := ?_) ?_ ?_
                 rotate_left
                 ·show Act.put _ (some 128) _ = _
                  simp only [Act.put, List.setIfInBounds_toArray, List.set_cons_zero, List.set_cons_succ, i64_w, i32_w]
                  rfl
                 refine pure_ (i := 27) (N := some 129) (v := ?_) (a' := ?_) #[true, true, true, true, true, true, true, true, true, true, true, true, true, true, true, true, true, true, true, true, true, true, true, true, true, true, true, true, false, false, false, false, false, false, false, false, false, false, false, false, false, false, false, false, false, false, false, false, false, false, false, false, false, false, false, false, false, false, false, false] rfl rfl (any_of HT_.out (by kernel_rfl)) (fun _ _ _ h => h) (Or.inl ⟨by rfl, ?_⟩) ?_ ?_
                 rotate_left
                 ·intro w'
                  go_simp
                  with_reducible rfl
                 rotate_left
                 ·simp only [Act.put, List.setIfInBounds_toArray, List.set_cons_zero, List.set_cons_succ, i64_w, i32_w]
                  rfl
                 refine pure_ (i := 28) (N := some 130) (v := ?_) (a' := ?_) #[true, true, true, true, true, true, true, true, true, true, true, true, true, true, true, true, true, true, true, true, true, true, true, true, true, true, true, true, true, false, false, false, false, false, false, false, false, false, false, false, false, false, false, false, false, false, false, false, false, false, false, false, false, false, false, false, false, false, false, false] rfl rfl (any_of HT_.out (by kernel_rfl)) (fun _ _ _ h => h) (Or.inl ⟨by rfl, ?_⟩) ?_ ?_
                 rotate_left
                 ·intro w'
                  go_simp
                  with_reducible rfl
                 rotate_left
                 ·simp only [Act.put, List.setIfInBounds_toArray, List.set_cons_zero, List.set_cons_succ, i64_w, i32_w]
                  rfl
                 refine pure_ (i := 29) (N := some 131) (v := ?_) (a' := ?_) #[true, true, true, true, true, true, true, true, true, true, true, true, true, true, true, true, true, true, true, true, true, true, true, true, true, true, true, true, true, true, false, false, false, false, false, false, false, false, false, false, false, false, false, false, false, false, false, false, false, false, false, false, false, false, false, false, false, false, false, false] rfl rfl (any_of HT_.out (by kernel_rfl)) (fun _ _ _ h => h) (Or.inl ⟨by rfl, ?_⟩) ?_ ?_
                 rotate_left
                 ·intro w'
                  go_simp
                  with_reducible rfl
                 rotate_left
                 ·simp only [Act.put, List.setIfInBounds_toArray, List.set_cons_zero, List.set_cons_succ, i64_w, i32_w]
                  rfl
                 refine pure_ (i := 31) (N := some 133) (v := ?_) (a' := ?_) #[true, true, true, true, true, true, true, true, true, true, true, true, true, true, true, true, true, true, true, true, true, true, true, true, true, true, true, true, true, true, false, true, false, false, false, false, false, false, false, false, false, false, false, false, false, false, false, false, false, false, false, false, false, false, false, false, false, false, false, false] rfl rfl (any_of HT_.out (by kernel_rfl)) (fun _ _ _ h => h) (Or.inl ⟨by rfl, ?_⟩) ?_ ?_
                 rotate_left
                 ·intro w'
                  go_simp
                  with_reducible rfl
                 rotate_left
                 ·simp only [Act.put, List.setIfInBounds_toArray, List.set_cons_zero, List.set_cons_succ, i64_w, i32_w]
                  rfl
                 refine pure_ (i := 33) (N := some 135) (v := ?_) (a' := ?_) #[true, true, true, true, true, true, true, true, true, true, true, true, true, true, true, true, true, true, true, true, true, true, true, true, true, true, true, true, true, true, false, true, false, true, false, false, false, false, false, false, false, false, false, false, false, false, false, false, false, false, false, false, false, false, false, false, false, false, false, false] rfl rfl (any_of HT_.out (by kernel_rfl)) (fun _ _ _ h => h) (Or.inl ⟨by rfl, ?_⟩) ?_ ?_
                 rotate_left
                 ·intro w'
                  go_simp
                  with_reducible rfl
                 rotate_left
                 ·simp only [Act.put, List.setIfInBounds_toArray, List.set_cons_zero, List.set_cons_succ, i64_w, i32_w]
                  rfl
                 refine pure_ (i := 34) (N := some 136) (v := ?_) (a' := ?_) #[true, true, true, true, true, true, true, true, true, true, true, true, true, true, true, true, true, true, true, true, true, true, true, true, true, true, true, true, true, true, false, true, false, true, true, false, false, false, false, false, false, false, false, false, false, false, false, false, false, false, false, false, false, false, false, false, false, false, false, false] rfl rfl (any_of HT_.out (by kernel_rfl)) (fun _ _ _ h => h) (Or.inl ⟨by rfl, ?_⟩) ?_ ?_
                 rotate_left
                 ·intro w'
                  go_simp
                  with_reducible rfl
                 rotate_left
                 ·simp only [Act.put, List.setIfInBounds_toArray, List.set_cons_zero, List.set_cons_succ, i64_w, i32_w]
                  rfl
                 refine pure_ (i := 35) (N := some 137) (v := ?_) (a' := ?_) #[true, true, true, true, true, true, true, true, true, true, true, true, true, true, true, true, true, true, true, true, true, true, true, true, true, true, true, true, true, true, false, true, false, true, true, true, false, false, false, false, false, false, false, false, false, false, false, false, false, false, false, false, false, false, false, false, false, false, false, false] rfl rfl (any_of HT_.out (by kernel_rfl)) (fun _ _ _ h => h) (Or.inl ⟨by rfl, ?_⟩) ?_ ?_
                 rotate_left
                 ·intro w'
                  go_simp
                  with_reducible rfl
                 rotate_left
                 ·simp only [Act.put, List.setIfInBounds_toArray, List.set_cons_zero, List.set_cons_succ, i64_w, i32_w]
                  rfl
                 refine take_ (i := 30) (N := some 132) (v := ?_) (a' := ?_) #[true, true, true, true, true, true, true, true, true, true, true, true, true, true, true, true, true, true, true, true, true, true, true, true, true, true, true, true, true, true, true, true, false, true, true, true, false, false, false, false, false, false, false, false, false, false, false, false, false, false, false, false, false, false, false, false, false, false, false, false] rfl rfl (take_ofW HT_.out HW_.out (by kernel_rfl)) (fun _ _ _ h => h) (Or.inl ⟨by rfl, ?_⟩) hHeld ?_ ?_
                 rotate_left
                 ·rintro w' ⟨s0, s1, s2, s3, s4, s5, s6, s7, s8, s9, s10, s11, s12, s13, s14⟩
                  go_simp
                  with_reducible rfl
                 rotate_left
                 ·simp only [Act.put, List.setIfInBounds_toArray, List.set_cons_zero, List.set_cons_succ, i64_w, i32_w]
                  rfl
                 refine one_ (i := 32) (N := some 134) #[true, true, true, true, true, true, true, true, true, true, true, true, true, true, true, true, true, true, true, true, true, true, true, true, true, true, true, true, true, true, true, true, true, true, true, true, false, false, false, false, false, false, false, false, false, false, false, false, false, false, false, false, false, false, false, false, false, false, false, false] rfl rfl (one_of HT_.out (by kernel_rfl)) (by decide) (fun K hK => ?_)
                 refine goes_ Tryd.func18 (by kernel_rfl) rfl #[.string t345] (by rfl) rfl rfl (by (try simp only [List.map_toArray, List.map_cons, List.map_nil]); first | done | rfl | (simp only [List.length_drop, List.length_take]; rfl)) ?_
                 with_reducible refine (letterlocklaw11_publicOf.calls kj39 t345 t379 _ A53.out).mono ?_
                 rintro e w82 ⟨rfl, hb⟩
                 refine ⟨_, rfl, ?_⟩
                 have n0_ := Aside0.mk (blk_below (g := gb356) (o := .cells #[.string t350, .int .u64 t351, .int .i64 t352, .string t353, .string t354] 28 (0, 0)) (by (with_reducible repeat (first | refine blk_drewN ?_ _ | refine blk_drew ?_ | refine blk_alloc ?_ _)); exact BK356.out) hb)
                 have n1_ := Aside0.mk (blk_below (g := gb365) (o := .cells #[.string t359, .int .u64 t360, .int .i64 t361, .string t362, .string t363] 28 (0, 0)) (by (with_reducible repeat (first | refine blk_drewN ?_ _ | refine blk_drew ?_ | refine blk_alloc ?_ _)); exact BK365.out) hb)
                 have n2_ := Aside0.mk (blk_below (g := gb371) (o := .cells #[.string t350, .int .u64 (IntKind.u64.wrap (t351 + 1)), .int .i64 t352, .string t353, .string t354] 28 (0, 0)) (by (with_reducible repeat (first | refine blk_drewN ?_ _ | refine blk_drew ?_ | refine blk_alloc ?_ _)); exact BK371.out) hb)
                 have n3_ := Aside0.mk (blk_below (g := gb372) (o := .cells #[.string t350, .int .u64 t351, .int .i64 (Int.tmod (wrap64 (t352 + 1)) 9), .string t353, .string t354] 28 (0, 0)) (by (with_reducible repeat (first | refine blk_drewN ?_ _ | refine blk_drew ?_ | refine blk_alloc ?_ _)); exact BK372.out) hb)
                 have n4_ := Aside0.mk (below_step (by repeat (first | (with_reducible first | exact HB.out | apply below_alloc | apply pw_below_drewN | apply below_drew1 | refine below_set ?_ GE356.out | refine below_set ?_ GE365.out | refine below_set ?_ GE371.out | refine below_set ?_ GE372.out) | exact HB.out)) hb)
                 clear BK356
                 clear BK365
                 clear BK371
                 clear BK372
                 clear HB
                 have BK356 := n0_
                 have BK365 := n1_
                 have BK371 := n2_
                 have BK372 := n3_
                 have HB := n4_
                 clear n0_ n1_ n2_ n3_ n4_
                 (try clear hb)
                 (try clear hb2)
                 (try clear hk)
                 (try clear hi)
                 refine hK.out _ _ ⟨(blk_cell BK356.out 0).trans rfl, (blk_cell BK356.out 1).trans rfl, (blk_cell BK356.out 2).trans rfl, (blk_cell BK356.out 3).trans rfl, (blk_cell BK356.out 4).trans rfl, (blk_cell BK371.out 0).trans rfl, (blk_cell BK371.out 1).trans rfl, (blk_cell BK371.out 2).trans rfl, (blk_cell BK371.out 3).trans rfl, (blk_cell BK371.out 4).trans rfl, (blk_cell BK372.out 0).trans rfl, (blk_cell BK372.out 1).trans rfl, (blk_cell BK372.out 2).trans rfl, (blk_cell BK372.out 3).trans rfl, (blk_cell BK372.out 4).trans rfl⟩ (fun hHeld => ?_)
                 clear hK K
                 refine norm_ (a' := ?_) ?_ ?_
                 rotate_left
                 ·show Act.put _ (some 134) _ = _
                  simp only [Act.put, List.setIfInBounds_toArray, List.set_cons_zero, List.set_cons_succ, i64_w, i32_w]
                  rfl
                 refine one_ (i := 36) (N := some 138) #[true, true, true, true, true, true, true, true, true, true, true, true, true, true, true, true, true, true, true, true, true, true, true, true, true, true, true, true, true, true, true, true, true, true, true, true, true, false, false, false, false, false, false, false, false, false, false, false, false, false, false, false, false, false, false, false, false, false, false, false] rfl rfl (one_of HT_.out (by kernel_rfl)) (by decide) (fun K hK => ?_)
                 refine goes_ Tryd.func17 (by kernel_rfl) rfl #[.agg #[.string t350, .int .u64 (IntKind.u64.wrap (t351 + 1)), .int .i64 t352, .string t353, .string t354], .string t379, .string t345, .int .u64 a2, .int .u64 a3] (by rfl) rfl rfl (by (try simp only [List.map_toArray, List.map_cons, List.map_nil]); first | done | rfl | (simp only [List.length_drop, List.length_take]; rfl)) ?_
                 with_reducible refine (fresh_Check.calls kj39 t350 (IntKind.u64.wrap (t351 + 1)) t352 t353 t354 t379 t345 a2 a3 t380 _ A54.out ?sidev).mono ?_
                 case sidev => exact Laid8.below HV.out (by repeat (first | (with_reducible first | exact HB.out | apply below_alloc | apply pw_below_drewN | apply below_drew1 | refine below_set ?_ GE356.out | refine below_set ?_ GE365.out | refine below_set ?_ GE371.out | refine below_set ?_ GE372.out) | exact HB.out))
                 rintro e w83 ⟨rfl, hb⟩
                 refine ⟨_, rfl, ?_⟩
                 have n0_ := Aside0.mk (blk_below (g := gb356) (o := .cells #[.string t350, .int .u64 t351, .int .i64 t352, .string t353, .string t354] 28 (0, 0)) (by (with_reducible repeat (first | refine blk_drewN ?_ _ | refine blk_drew ?_ | refine blk_alloc ?_ _)); exact BK356.out) hb)
                 have n1_ := Aside0.mk (blk_below (g := gb365) (o := .cells #[.string t359, .int .u64 t360, .int .i64 t361, .string t362, .string t363] 28 (0, 0)) (by (with_reducible repeat (first | refine blk_drewN ?_ _ | refine blk_drew ?_ | refine blk_alloc ?_ _)); exact BK365.out) hb)
                 have n2_ := Aside0.mk (blk_below (g := gb371) (o := .cells #[.string t350, .int .u64 (IntKind.u64.wrap (t351 + 1)), .int .i64 t352, .string t353, .string t354] 28 (0, 0)) (by (with_reducible repeat (first | refine blk_drewN ?_ _ | refine blk_drew ?_ | refine blk_alloc ?_ _)); exact BK371.out) hb)
                 have n3_ := Aside0.mk (blk_below (g := gb372) (o := .cells #[.string t350, .int .u64 t351, .int .i64 (Int.tmod (wrap64 (t352 + 1)) 9), .string t353, .string t354] 28 (0, 0)) (by (with_reducible repeat (first | refine blk_drewN ?_ _ | refine blk_drew ?_ | refine blk_alloc ?_ _)); exact BK372.out) hb)
                 have n4_ := Aside0.mk (below_step (by repeat (first | (with_reducible first | exact HB.out | apply below_alloc | apply pw_below_drewN | apply below_drew1 | refine below_set ?_ GE356.out | refine below_set ?_ GE365.out | refine below_set ?_ GE371.out | refine below_set ?_ GE372.out) | exact HB.out)) hb)
                 clear BK356
                 clear BK365
                 clear BK371
                 clear BK372
                 clear HB
                 have BK356 := n0_
                 have BK365 := n1_
                 have BK371 := n2_
                 have BK372 := n3_
                 have HB := n4_
                 clear n0_ n1_ n2_ n3_ n4_
                 (try clear hb)
                 (try clear hb2)
                 (try clear hk)
                 (try clear hi)
                 refine hK.out _ _ ⟨(blk_cell BK356.out 0).trans rfl, (blk_cell BK356.out 1).trans rfl, (blk_cell BK356.out 2).trans rfl, (blk_cell BK356.out 3).trans rfl, (blk_cell BK356.out 4).trans rfl, (blk_cell BK371.out 0).trans rfl, (blk_cell BK371.out 1).trans rfl, (blk_cell BK371.out 2).trans rfl, (blk_cell BK371.out 3).trans rfl, (blk_cell BK371.out 4).trans rfl, (blk_cell BK372.out 0).trans rfl, (blk_cell BK372.out 1).trans rfl, (blk_cell BK372.out 2).trans rfl, (blk_cell BK372.out 3).trans rfl, (blk_cell BK372.out 4).trans rfl⟩ (fun hHeld => ?_)
                 clear hK K
                 refine norm_ (a' := ?_) ?_ ?_
                 rotate_left
                 ·show Act.put _ (some 138) _ = _
                  simp only [Act.put, List.setIfInBounds_toArray, List.set_cons_zero, List.set_cons_succ, i64_w, i32_w]
                  rfl
                 refine pure_ (i := 37) (N := some 139) (v := ?_) (a' := ?_) #[true, true, true, true, true, true, true, true, true, true, true, true, true, true, true, true, true, true, true, true, true, true, true, true, true, true, true, true, true, true, true, true, true, true, true, true, true, true, false, false, false, false, false, false, false, false, false, false, false, false, false, false, false, false, false, false, false, false, false, false] rfl rfl (any_of HT_.out (by kernel_rfl)) (fun _ _ _ h => h) (Or.inl ⟨by rfl, ?_⟩) ?_ ?_
                 rotate_left
                 ·intro w'
                  go_simp
                  with_reducible rfl
                 rotate_left
                 ·simp only [Act.put, List.setIfInBounds_toArray, List.set_cons_zero, List.set_cons_succ, i64_w, i32_w]
                  rfl
                 refine pure_ (i := 38) (N := some 140) (v := ?_) (a' := ?_) #[true, true, true, true, true, true, true, true, true, true, true, true, true, true, true, true, true, true, true, true, true, true, true, true, true, true, true, true, true, true, true, true, true, true, true, true, true, true, true, false, false, false, false, false, false, false, false, false, false, false, false, false, false, false, false, false, false, false, false, false] rfl rfl (any_of HT_.out (by kernel_rfl)) (fun _ _ _ h => h) (Or.inl ⟨by rfl, ?_⟩) ?_ ?_
                 rotate_left
                 ·intro w'
                  go_simp
                  with_reducible rfl
                 rotate_left
                 ·simp only [Act.put, List.setIfInBounds_toArray, List.set_cons_zero, List.set_cons_succ, i64_w, i32_w]
                  rfl
                 refine pure_ (i := 39) (N := some 141) (v := ?_) (a' := ?_) #[true, true, true, true, true, true, true, true, true, true, true, true, true, true, true, true, true, true, true, true, true, true, true, true, true, true, true, true, true, true, true, true, true, true, true, true, true, true, true, true, false, false, false, false, false, false, false, false, false, false, false, false, false, false, false, false, false, false, false, false] rfl rfl (any_of HT_.out (by kernel_rfl)) (fun _ _ _ h => h) (Or.inl ⟨by rfl, ?_⟩) ?_ ?_
                 rotate_left
                 ·intro w'
                  go_simp
                  with_reducible rfl
                 rotate_left
                 ·simp only [Act.put, List.setIfInBounds_toArray, List.set_cons_zero, List.set_cons_succ, i64_w, i32_w]
                  rfl
                 refine pure_ (i := 41) (N := some 143) (v := ?_) (a' := ?_) #[true, true, true, true, true, true, true, true, true, true, true, true, true, true, true, true, true, true, true, true, true, true, true, true, true, true, true, true, true, true, true, true, true, true, true, true, true, true, true, true, false, true, false, false, false, false, false, false, false, false, false, false, false, false, false, false, false, false, false, false] rfl rfl (any_of HT_.out (by kernel_rfl)) (fun _ _ _ h => h) (Or.inl ⟨by rfl, ?_⟩) ?_ ?_
                 rotate_left
                 ·intro w'
                  go_simp
                  with_reducible rfl
                 rotate_left
                 ·simp only [Act.put, List.setIfInBounds_toArray, List.set_cons_zero, List.set_cons_succ, i64_w, i32_w]
                  rfl
                 refine pure_ (i := 43) (N := some 145) (v := ?_) (a' := ?_) #[true, true, true, true, true, true, true, true, true, true, true, true, true, true, true, true, true, true, true, true, true, true, true, true, true, true, true, true, true, true, true, true, true, true, true, true, true, true, true, true, false, true, false, true, false, false, false, false, false, false, false, false, false, false, false, false, false, false, false, false] rfl rfl (any_of HT_.out (by kernel_rfl)) (fun _ _ _ h => h) (Or.inl ⟨by rfl, ?_⟩) ?_ ?_
                 rotate_left
                 ·intro w'
                  go_simp
                  with_reducible rfl
                 rotate_left
                 ·simp only [Act.put, List.setIfInBounds_toArray, List.set_cons_zero, List.set_cons_succ, i64_w, i32_w]
                  rfl
                 refine pure_ (i := 44) (N := some 146) (v := ?_) (a' := ?_) #[true, true, true, true, true, true, true, true, true, true, true, true, true, true, true, true, true, true, true, true, true, true, true, true, true, true, true, true, true, true, true, true, true, true, true, true, true, true, true, true, false, true, false, true, true, false, false, false, false, false, false, false, false, false, false, false, false, false, false, false] rfl rfl (any_of HT_.out (by kernel_rfl)) (fun _ _ _ h => h) (Or.inl ⟨by rfl, ?_⟩) ?_ ?_
                 rotate_left
                 ·intro w'
                  go_simp
                  with_reducible rfl
                 rotate_left
                 ·simp only [Act.put, List.setIfInBounds_toArray, List.set_cons_zero, List.set_cons_succ, i64_w, i32_w]
                  rfl
                 refine pure_ (i := 45) (N := some 147) (v := ?_) (a' := ?_) #[true, true, true, true, true, true, true, true, true, true, true, true, true, true, true, true, true, true, true, true, true, true, true, true, true, true, true, true, true, true, true, true, true, true, true, true, true, true, true, true, false, true, false, true, true, true, false, false, false, false, false, false, false, false, false, false, false, false, false, false] rfl rfl (any_of HT_.out (by kernel_rfl)) (fun _ _ _ h => h) (Or.inl ⟨by rfl, ?_⟩) ?_ ?_
                 rotate_left
                 ·intro w'
                  go_simp
                  with_reducible rfl
                 rotate_left
                 ·simp only [Act.put, List.setIfInBounds_toArray, List.set_cons_zero, List.set_cons_succ, i64_w, i32_w]
                  rfl
                 refine take_ (i := 40) (N := some 142) (v := ?_) (a' := ?_) #[true, true, true, true, true, true, true, true, true, true, true, true, true, true, true, true, true, true, true, true, true, true, true, true, true, true, true, true, true, true, true, true, true, true, true, true, true, true, true, true, true, true, false, true, true, true, false, false, false, false, false, false, false, false, false, false, false, false, false, false] rfl rfl (take_ofW HT_.out HW_.out (by kernel_rfl)) (fun _ _ _ h => h) (Or.inl ⟨by rfl, ?_⟩) hHeld ?_ ?_
                 rotate_left
                 ·rintro w' ⟨s0, s1, s2, s3, s4, s5, s6, s7, s8, s9, s10, s11, s12, s13, s14⟩
                  go_simp
                  with_reducible rfl
                 rotate_left
                 ·simp only [Act.put, List.setIfInBounds_toArray, List.set_cons_zero, List.set_cons_succ, i64_w, i32_w]
                  rfl
                 refine one_ (i := 42) (N := some 144) #[true, true, true, true, true, true, true, true, true, true, true, true, true, true, true, true, true, true, true, true, true, true, true, true, true, true, true, true, true, true, true, true, true, true, true, true, true, true, true, true, true, true, true, true, true, true, false, false, false, false, false, false, false, false, false, false, false, false, false, false] rfl rfl (one_of HT_.out (by kernel_rfl)) (by decide) (fun K hK => ?_)
                 refine goes_ Tryd.func18 (by kernel_rfl) rfl #[.string t345] (by rfl) rfl rfl (by (try simp only [List.map_toArray, List.map_cons, List.map_nil]); first | done | rfl | (simp only [List.length_drop, List.length_take]; rfl)) ?_
                 with_reducible refine (letterlocklaw11_publicOf.calls kj39 t345 t381 _ A56.out).mono ?_
                 rintro e w84 ⟨rfl, hb⟩
                 refine ⟨_, rfl, ?_⟩
                 have n0_ := Aside0.mk (blk_below (g := gb356) (o := .cells #[.string t350, .int .u64 t351, .int .i64 t352, .string t353, .string t354] 28 (0, 0)) (by (with_reducible repeat (first | refine blk_drewN ?_ _ | refine blk_drew ?_ | refine blk_alloc ?_ _)); exact BK356.out) hb)
                 have n1_ := Aside0.mk (blk_below (g := gb365) (o := .cells #[.string t359, .int .u64 t360, .int .i64 t361, .string t362, .string t363] 28 (0, 0)) (by (with_reducible repeat (first | refine blk_drewN ?_ _ | refine blk_drew ?_ | refine blk_alloc ?_ _)); exact BK365.out) hb)
                 have n2_ := Aside0.mk (blk_below (g := gb371) (o := .cells #[.string t350, .int .u64 (IntKind.u64.wrap (t351 + 1)), .int .i64 t352, .string t353, .string t354] 28 (0, 0)) (by (with_reducible repeat (first | refine blk_drewN ?_ _ | refine blk_drew ?_ | refine blk_alloc ?_ _)); exact BK371.out) hb)
                 have n3_ := Aside0.mk (blk_below (g := gb372) (o := .cells #[.string t350, .int .u64 t351, .int .i64 (Int.tmod (wrap64 (t352 + 1)) 9), .string t353, .string t354] 28 (0, 0)) (by (with_reducible repeat (first | refine blk_drewN ?_ _ | refine blk_drew ?_ | refine blk_alloc ?_ _)); exact BK372.out) hb)
                 have n4_ := Aside0.mk (below_step (by repeat (first | (with_reducible first | exact HB.out | apply below_alloc | apply pw_below_drewN | apply below_drew1 | refine below_set ?_ GE356.out | refine below_set ?_ GE365.out | refine below_set ?_ GE371.out | refine below_set ?_ GE372.out) | exact HB.out)) hb)
                 clear BK356
                 clear BK365
                 clear BK371
                 clear BK372
                 clear HB
                 have BK356 := n0_
                 have BK365 := n1_
                 have BK371 := n2_
                 have BK372 := n3_
                 have HB := n4_
                 clear n0_ n1_ n2_ n3_ n4_
                 (try clear hb)
                 (try clear hb2)
                 (try clear hk)
                 (try clear hi)
                 refine hK.out _ _ ⟨(blk_cell BK356.out 0).trans rfl, (blk_cell BK356.out 1).trans rfl, (blk_cell BK356.out 2).trans rfl, (blk_cell BK356.out 3).trans rfl, (blk_cell BK356.out 4).trans rfl, (blk_cell BK371.out 0).trans rfl, (blk_cell BK371.out 1).trans rfl, (blk_cell BK371.out 2).trans rfl, (blk_cell BK371.out 3).trans rfl, (blk_cell BK371.out 4).trans rfl, (blk_cell BK372.out 0).trans rfl, (blk_cell BK372.out 1).trans rfl, (blk_cell BK372.out 2).trans rfl, (blk_cell BK372.out 3).trans rfl, (blk_cell BK372.out 4).trans rfl⟩ (fun hHeld => ?_)
                 clear hK K
                 refine norm_ (a' := ?_) ?_ ?_
                 rotate_left
                 ·show Act.put _ (some 144) _ = _
                  simp only [Act.put, List.setIfInBounds_toArray, List.set_cons_zero, List.set_cons_succ, i64_w, i32_w]
                  rfl
                 refine one_ (i := 46) (N := some 148) #[true, true, true, true, true, true, true, true, true, true, true, true, true, true, true, true, true, true, true, true, true, true, true, true, true, true, true, true, true, true, true, true, true, true, true, true, true, true, true, true, true, true, true, true, true, true, true, false, false, false, false, false, false, false, false, false, false, false, false, false] rfl rfl (one_of HT_.out (by kernel_rfl)) (by decide) (fun K hK => ?_)
                 refine goes_ Tryd.func17 (by kernel_rfl) rfl #[.agg #[.string t350, .int .u64 t351, .int .i64 (Int.tmod (wrap64 (t352 + 1)) 9), .string t353, .string t354], .string t381, .string t345, .int .u64 a2, .int .u64 a3] (by rfl) rfl rfl (by (try simp only [List.map_toArray, List.map_cons, List.map_nil]); first | done | rfl | (simp only [List.length_drop, List.length_take]; rfl)) ?_
                 with_reducible refine (fresh_Check.calls kj39 t350 t351 (Int.tmod (wrap64 (t352 + 1)) 9) t353 t354 t381 t345 a2 a3 t382 _ A57.out ?sidev).mono ?_
                 case sidev => exact Laid8.below HV.out (by repeat (first | (with_reducible first | exact HB.out | apply below_alloc | apply pw_below_drewN | apply below_drew1 | refine below_set ?_ GE356.out | refine below_set ?_ GE365.out | refine below_set ?_ GE371.out | refine below_set ?_ GE372.out) | exact HB.out))
                 rintro e w85 ⟨rfl, hb⟩
                 refine ⟨_, rfl, ?_⟩
                 have n0_ := Aside0.mk (blk_below (g := gb356) (o := .cells #[.string t350, .int .u64 t351, .int .i64 t352, .string t353, .string t354] 28 (0, 0)) (by (with_reducible repeat (first | refine blk_drewN ?_ _ | refine blk_drew ?_ | refine blk_alloc ?_ _)); exact BK356.out) hb)
                 have n1_ := Aside0.mk (blk_below (g := gb365) (o := .cells #[.string t359, .int .u64 t360, .int .i64 t361, .string t362, .string t363] 28 (0, 0)) (by (with_reducible repeat (first | refine blk_drewN ?_ _ | refine blk_drew ?_ | refine blk_alloc ?_ _)); exact BK365.out) hb)
                 have n2_ := Aside0.mk (blk_below (g := gb371) (o := .cells #[.string t350, .int .u64 (IntKind.u64.wrap (t351 + 1)), .int .i64 t352, .string t353, .string t354] 28 (0, 0)) (by (with_reducible repeat (first | refine blk_drewN ?_ _ | refine blk_drew ?_ | refine blk_alloc ?_ _)); exact BK371.out) hb)
                 have n3_ := Aside0.mk (blk_below (g := gb372) (o := .cells #[.string t350, .int .u64 t351, .int .i64 (Int.tmod (wrap64 (t352 + 1)) 9), .string t353, .string t354] 28 (0, 0)) (by (with_reducible repeat (first | refine blk_drewN ?_ _ | refine blk_drew ?_ | refine blk_alloc ?_ _)); exact BK372.out) hb)
                 have n4_ := Aside0.mk (below_step (by repeat (first | (with_reducible first | exact HB.out | apply below_alloc | apply pw_below_drewN | apply below_drew1 | refine below_set ?_ GE356.out | refine below_set ?_ GE365.out | refine below_set ?_ GE371.out | refine below_set ?_ GE372.out) | exact HB.out)) hb)
                 clear BK356
                 clear BK365
                 clear BK371
                 clear BK372
                 clear HB
                 have BK356 := n0_
                 have BK365 := n1_
                 have BK371 := n2_
                 have BK372 := n3_
                 have HB := n4_
                 clear n0_ n1_ n2_ n3_ n4_
                 (try clear hb)
                 (try clear hb2)
                 (try clear hk)
                 (try clear hi)
                 refine hK.out _ _ ⟨(blk_cell BK356.out 0).trans rfl, (blk_cell BK356.out 1).trans rfl, (blk_cell BK356.out 2).trans rfl, (blk_cell BK356.out 3).trans rfl, (blk_cell BK356.out 4).trans rfl, (blk_cell BK371.out 0).trans rfl, (blk_cell BK371.out 1).trans rfl, (blk_cell BK371.out 2).trans rfl, (blk_cell BK371.out 3).trans rfl, (blk_cell BK371.out 4).trans rfl, (blk_cell BK372.out 0).trans rfl, (blk_cell BK372.out 1).trans rfl, (blk_cell BK372.out 2).trans rfl, (blk_cell BK372.out 3).trans rfl, (blk_cell BK372.out 4).trans rfl⟩ (fun hHeld => ?_)
                 clear hK K
                 refine norm_ (a' := ?_) ?_ ?_
                 rotate_left
                 ·show Act.put _ (some 148) _ = _
                  simp only [Act.put, List.setIfInBounds_toArray, List.set_cons_zero, List.set_cons_succ, i64_w, i32_w]
                  rfl
                 refine pure_ (i := 47) (N := some 149) (v := ?_) (a' := ?_) #[true, true, true, true, true, true, true, true, true, true, true, true, true, true, true, true, true, true, true, true, true, true, true, true, true, true, true, true, true, true, true, true, true, true, true, true, true, true, true, true, true, true, true, true, true, true, true, true, false, false, false, false, false, false, false, false, false, false, false, false] rfl rfl (any_of HT_.out (by kernel_rfl)) (fun _ _ _ h => h) (Or.inl ⟨by rfl, ?_⟩) ?_ ?_
                 rotate_left
                 ·intro w'
                  go_simp
                  with_reducible rfl
                 rotate_left
                 ·simp only [Act.put, List.setIfInBounds_toArray, List.set_cons_zero, List.set_cons_succ, i64_w, i32_w]
                  rfl
                 refine pure_ (i := 48) (N := some 150) (v := ?_) (a' := ?_) #[true, true, true, true, true, true, true, true, true, true, true, true, true, true, true, true, true, true, true, true, true, true, true, true, true, true, true, true, true, true, true, true, true, true, true, true, true, true, true, true, true, true, true, true, true, true, true, true, true, false, false, false, false, false, false, false, false, false, false, false] rfl rfl (any_of HT_.out (by kernel_rfl)) (fun _ _ _ h => h) (Or.inl ⟨by rfl, ?_⟩) ?_ ?_
                 rotate_left
                 ·intro w'
                  go_simp
                  with_reducible rfl
                 rotate_left
                 ·simp only [Act.put, List.setIfInBounds_toArray, List.set_cons_zero, List.set_cons_succ, i64_w, i32_w]
                  rfl
                 refine pure_ (i := 49) (N := some 151) (v := ?_) (a' := ?_) #[true, true, true, true, true, true, true, true, true, true, true, true, true, true, true, true, true, true, true, true, true, true, true, true, true, true, true, true, true, true, true, true, true, true, true, true, true, true, true, true, true, true, true, true, true, true, true, true, true, true, false, false, false, false, false, false, false, false, false, false] rfl rfl (any_of HT_.out (by kernel_rfl)) (fun _ _ _ h => h) (Or.inl ⟨by rfl, ?_⟩) ?_ ?_
                 rotate_left
                 ·intro w'
                  go_simp
                  with_reducible rfl
                 rotate_left
                 ·simp only [Act.put, List.setIfInBounds_toArray, List.set_cons_zero, List.set_cons_succ, i64_w, i32_w]
                  rfl
                 refine pure_ (i := 51) (N := some 153) (v := ?_) (a' := ?_) #[true, true, true, true, true, true, true, true, true, true, true, true, true, true, true, true, true, true, true, true, true, true, true, true, true, true, true, true, true, true, true, true, true, true, true, true, true, true, true, true, true, true, true, true, true, true, true, true, true, true, false, true, false, false, false, false, false, false, false, false] rfl rfl (any_of HT_.out (by kernel_rfl)) (fun _ _ _ h => h) (Or.inl ⟨by rfl, ?_⟩) ?_ ?_
                 rotate_left
                 ·intro w'
                  go_simp
                  with_reducible rfl
                 rotate_left
                 ·simp only [Act.put, List.setIfInBounds_toArray, List.set_cons_zero, List.set_cons_succ, i64_w, i32_w]
                  rfl
                 refine pure_ (i := 53) (N := some 155) (v := ?_) (a' := ?_) #[true, true, true, true, true, true, true, true, true, true, true, true, true, true, true, true, true, true, true, true, true, true, true, true, true, true, true, true, true, true, true, true, true, true, true, true, true, true, true, true, true, true, true, true, true, true, true, true, true, true, false, true, false, true, false, false, false, false, false, false] rfl rfl (any_of HT_.out (by kernel_rfl)) (fun _ _ _ h => h) (Or.inl ⟨by rfl, ?_⟩) ?_ ?_
                 rotate_left
                 ·intro w'
                  go_simp
                  with_reducible rfl
                 rotate_left
                 ·simp only [Act.put, List.setIfInBounds_toArray, List.set_cons_zero, List.set_cons_succ, i64_w, i32_w]
                  rfl
                 refine pure_ (i := 54) (N := some 156) (v := ?_) (a' := ?_) #[true, true, true, true, true, true, true, true, true, true, true, true, true, true, true, true, true, true, true, true, true, true, true, true, true, true, true, true, true, true, true, true, true, true, true, true, true, true, true, true, true, true, true, true, true, true, true, true, true, true, false, true, false, true, true, false, false, false, false, false] rfl rfl (any_of HT_.out (by kernel_rfl)) (fun _ _ _ h => h) (Or.inl ⟨by rfl, ?_⟩) ?_ ?_
                 rotate_left
                 ·intro w'
                  go_simp
                  with_reducible rfl
                 rotate_left
                 ·simp only [Act.put, List.setIfInBounds_toArray, List.set_cons_zero, List.set_cons_succ, i64_w, i32_w]
                  rfl
                 refine pure_ (i := 55) (N := some 157) (v := ?_) (a' := ?_) #[true, true, true, true, true, true, true, true, true, true, true, true, true, true, true, true, true, true, true, true, true, true, true, true, true, true, true, true, true, true, true, true, true, true, true, true, true, true, true, true, true, true, true, true, true, true, true, true, true, true, false, true, false, true, true, true, false, false, false, false] rfl rfl (any_of HT_.out (by kernel_rfl)) (fun _ _ _ h => h) (Or.inl ⟨by rfl, ?_⟩) ?_ ?_
                 rotate_left
                 ·intro w'
                  go_simp
                  with_reducible rfl
                 rotate_left
                 ·simp only [Act.put, List.setIfInBounds_toArray, List.set_cons_zero, List.set_cons_succ, i64_w, i32_w]
                  rfl
                 refine take_ (i := 50) (N := some 152) (v := ?_) (a' := ?_) #[true, true, true, true, true, true, true, true, true, true, true, true, true, true, true, true, true, true, true, true, true, true, true, true, true, true, true, true, true, true, true, true, true, true, true, true, true, true, true, true, true, true, true, true, true, true, true, true, true, true, true, true, false, true, true, true, false, false, false, false] rfl rfl (take_ofW HT_.out HW_.out (by kernel_rfl)) (fun _ _ _ h => h) (Or.inl ⟨by rfl, ?_⟩) hHeld ?_ ?_
                 rotate_left
                 ·rintro w' ⟨s0, s1, s2, s3, s4, s5, s6, s7, s8, s9, s10, s11, s12, s13, s14⟩
                  go_simp
                  with_reducible rfl
                 rotate_left
                 ·simp only [Act.put, List.setIfInBounds_toArray, List.set_cons_zero, List.set_cons_succ, i64_w, i32_w]
                  rfl
                 refine one_ (i := 52) (N := some 154) #[true, true, true, true, true, true, true, true, true, true, true, true, true, true, true, true, true, true, true, true, true, true, true, true, true, true, true, true, true, true, true, true, true, true, true, true, true, true, true, true, true, true, true, true, true, true, true, true, true, true, true, true, true, true, true, true, false, false, false, false] rfl rfl (one_of HT_.out (by kernel_rfl)) (by decide) (fun K hK => ?_)
                 refine goes_ Tryd.func11 (by kernel_rfl) rfl #[.string t345] (by rfl) rfl rfl (by (try simp only [List.map_toArray, List.map_cons, List.map_nil]); first | done | rfl | (simp only [List.length_drop, List.length_take]; rfl)) ?_
                 with_reducible refine (letterlocklaw11_secretOf.calls kj39 t345 t383 _ A59.out).mono ?_
                 rintro e w86 ⟨rfl, hb⟩
                 refine ⟨_, rfl, ?_⟩
                 have n0_ := Aside0.mk (blk_below (g := gb356) (o := .cells #[.string t350, .int .u64 t351, .int .i64 t352, .string t353, .string t354] 28 (0, 0)) (by (with_reducible repeat (first | refine blk_drewN ?_ _ | refine blk_drew ?_ | refine blk_alloc ?_ _)); exact BK356.out) hb)
                 have n1_ := Aside0.mk (blk_below (g := gb365) (o := .cells #[.string t359, .int .u64 t360, .int .i64 t361, .string t362, .string t363] 28 (0, 0)) (by (with_reducible repeat (first | refine blk_drewN ?_ _ | refine blk_drew ?_ | refine blk_alloc ?_ _)); exact BK365.out) hb)
                 have n2_ := Aside0.mk (blk_below (g := gb371) (o := .cells #[.string t350, .int .u64 (IntKind.u64.wrap (t351 + 1)), .int .i64 t352, .string t353, .string t354] 28 (0, 0)) (by (with_reducible repeat (first | refine blk_drewN ?_ _ | refine blk_drew ?_ | refine blk_alloc ?_ _)); exact BK371.out) hb)
                 have n3_ := Aside0.mk (blk_below (g := gb372) (o := .cells #[.string t350, .int .u64 t351, .int .i64 (Int.tmod (wrap64 (t352 + 1)) 9), .string t353, .string t354] 28 (0, 0)) (by (with_reducible repeat (first | refine blk_drewN ?_ _ | refine blk_drew ?_ | refine blk_alloc ?_ _)); exact BK372.out) hb)
                 have n4_ := Aside0.mk (below_step (by repeat (first | (with_reducible first | exact HB.out | apply below_alloc | apply pw_below_drewN | apply below_drew1 | refine below_set ?_ GE356.out | refine below_set ?_ GE365.out | refine below_set ?_ GE371.out | refine below_set ?_ GE372.out) | exact HB.out)) hb)
                 clear BK356
                 clear BK365
                 clear BK371
                 clear BK372
                 clear HB
                 have BK356 := n0_
                 have BK365 := n1_
                 have BK371 := n2_
                 have BK372 := n3_
                 have HB := n4_
                 clear n0_ n1_ n2_ n3_ n4_
                 (try clear hb)
                 (try clear hb2)
                 (try clear hk)
                 (try clear hi)
                 refine hK.out _ _ ⟨(blk_cell BK356.out 0).trans rfl, (blk_cell BK356.out 1).trans rfl, (blk_cell BK356.out 2).trans rfl, (blk_cell BK356.out 3).trans rfl, (blk_cell BK356.out 4).trans rfl, (blk_cell BK371.out 0).trans rfl, (blk_cell BK371.out 1).trans rfl, (blk_cell BK371.out 2).trans rfl, (blk_cell BK371.out 3).trans rfl, (blk_cell BK371.out 4).trans rfl, (blk_cell BK372.out 0).trans rfl, (blk_cell BK372.out 1).trans rfl, (blk_cell BK372.out 2).trans rfl, (blk_cell BK372.out 3).trans rfl, (blk_cell BK372.out 4).trans rfl⟩ (fun hHeld => ?_)
                 clear hK K
                 refine norm_ (a' := ?_) ?_ ?_
                 rotate_left
                 ·show Act.put _ (some 154) _ = _
                  simp only [Act.put, List.setIfInBounds_toArray, List.set_cons_zero, List.set_cons_succ, i64_w, i32_w]
                  rfl
                 refine one_ (i := 56) (N := some 158) #[true, true, true, true, true, true, true, true, true, true, true, true, true, true, true, true, true, true, true, true, true, true, true, true, true, true, true, true, true, true, true, true, true, true, true, true, true, true, true, true, true, true, true, true, true, true, true, true, true, true, true, true, true, true, true, true, true, false, false, false] rfl rfl (one_of HT_.out (by kernel_rfl)) (by decide) (fun K hK => ?_)
                 refine goes_ Tryd.func17 (by kernel_rfl) rfl #[.agg #[.string t350, .int .u64 t351, .int .i64 t352, .string t353, .string t354], .string t383, .string t345, .int .u64 a2, .int .u64 a3] (by rfl) rfl rfl (by (try simp only [List.map_toArray, List.map_cons, List.map_nil]); first | done | rfl | (simp only [List.length_drop, List.length_take]; rfl)) ?_
                 with_reducible refine (fresh_Check.calls kj39 t350 t351 t352 t353 t354 t383 t345 a2 a3 t384 _ A60.out ?sidev).mono ?_
                 case sidev => exact Laid8.below HV.out (by repeat (first | (with_reducible first | exact HB.out | apply below_alloc | apply pw_below_drewN | apply below_drew1 | refine below_set ?_ GE356.out | refine below_set ?_ GE365.out | refine below_set ?_ GE371.out | refine below_set ?_ GE372.out) | exact HB.out))
                 rintro e w87 ⟨rfl, hb⟩
                 refine ⟨_, rfl, ?_⟩
                 have n0_ := Aside0.mk (blk_below (g := gb356) (o := .cells #[.string t350, .int .u64 t351, .int .i64 t352, .string t353, .string t354] 28 (0, 0)) (by (with_reducible repeat (first | refine blk_drewN ?_ _ | refine blk_drew ?_ | refine blk_alloc ?_ _)); exact BK356.out) hb)
                 have n1_ := Aside0.mk (blk_below (g := gb365) (o := .cells #[.string t359, .int .u64 t360, .int .i64 t361, .string t362, .string t363] 28 (0, 0)) (by (with_reducible repeat (first | refine blk_drewN ?_ _ | refine blk_drew ?_ | refine blk_alloc ?_ _)); exact BK365.out) hb)
                 have n2_ := Aside0.mk (blk_below (g := gb371) (o := .cells #[.string t350, .int .u64 (IntKind.u64.wrap (t351 + 1)), .int .i64 t352, .string t353, .string t354] 28 (0, 0)) (by (with_reducible repeat (first | refine blk_drewN ?_ _ | refine blk_drew ?_ | refine blk_alloc ?_ _)); exact BK371.out) hb)
                 have n3_ := Aside0.mk (blk_below (g := gb372) (o := .cells #[.string t350, .int .u64 t351, .int .i64 (Int.tmod (wrap64 (t352 + 1)) 9), .string t353, .string t354] 28 (0, 0)) (by (with_reducible repeat (first | refine blk_drewN ?_ _ | refine blk_drew ?_ | refine blk_alloc ?_ _)); exact BK372.out) hb)
                 have n4_ := Aside0.mk (below_step (by repeat (first | (with_reducible first | exact HB.out | apply below_alloc | apply pw_below_drewN | apply below_drew1 | refine below_set ?_ GE356.out | refine below_set ?_ GE365.out | refine below_set ?_ GE371.out | refine below_set ?_ GE372.out) | exact HB.out)) hb)
                 clear BK356
                 clear BK365
                 clear BK371
                 clear BK372
                 clear HB
                 have BK356 := n0_
                 have BK365 := n1_
                 have BK371 := n2_
                 have BK372 := n3_
                 have HB := n4_
                 clear n0_ n1_ n2_ n3_ n4_
                 (try clear hb)
                 (try clear hb2)
                 (try clear hk)
                 (try clear hi)
                 refine hK.out _ _ ⟨(blk_cell BK356.out 0).trans rfl, (blk_cell BK356.out 1).trans rfl, (blk_cell BK356.out 2).trans rfl, (blk_cell BK356.out 3).trans rfl, (blk_cell BK356.out 4).trans rfl, (blk_cell BK371.out 0).trans rfl, (blk_cell BK371.out 1).trans rfl, (blk_cell BK371.out 2).trans rfl, (blk_cell BK371.out 3).trans rfl, (blk_cell BK371.out 4).trans rfl, (blk_cell BK372.out 0).trans rfl, (blk_cell BK372.out 1).trans rfl, (blk_cell BK372.out 2).trans rfl, (blk_cell BK372.out 3).trans rfl, (blk_cell BK372.out 4).trans rfl⟩ (fun hHeld => ?_)
                 clear hK K
                 refine norm_ (a' := ?_) ?_ ?_
                 rotate_left
                 ·show Act.put _ (some 158) _ = _
                  simp only [Act.put, List.setIfInBounds_toArray, List.set_cons_zero, List.set_cons_succ, i64_w, i32_w]
                  rfl
                 refine pure_ (i := 57) (N := some 159) (v := ?_) (a' := ?_) #[true, true, true, true, true, true, true, true, true, true, true, true, true, true, true, true, true, true, true, true, true, true, true, true, true, true, true, true, true, true, true, true, true, true, true, true, true, true, true, true, true, true, true, true, true, true, true, true, true, true, true, true, true, true, true, true, true, true, false, false] rfl rfl (any_of HT_.out (by kernel_rfl)) (fun _ _ _ h => h) (Or.inl ⟨by rfl, ?_⟩) ?_ ?_
                 rotate_left
                 ·intro w'
                  go_simp
                  with_reducible rfl
                 rotate_left
                 ·simp only [Act.put, List.setIfInBounds_toArray, List.set_cons_zero, List.set_cons_succ, i64_w, i32_w]
                  rfl
                 refine pure_ (i := 58) (N := some 160) (v := ?_) (a' := ?_) #[true, true, true, true, true, true, true, true, true, true, true, true, true, true, true, true, true, true, true, true, true, true, true, true, true, true, true, true, true, true, true, true, true, true, true, true, true, true, true, true, true, true, true, true, true, true, true, true, true, true, true, true, true, true, true, true, true, true, true, false] rfl rfl (any_of HT_.out (by kernel_rfl)) (fun _ _ _ h => h) (Or.inl ⟨by rfl, ?_⟩) ?_ ?_
                 rotate_left
                 ·intro w'
                  go_simp
                  with_reducible rfl
                 rotate_left
                 ·simp only [Act.put, List.setIfInBounds_toArray, List.set_cons_zero, List.set_cons_succ, i64_w, i32_w]
                  rfl
                 refine pure_ (i := 59) (N := some 10) (v := ?_) (a' := ?_) #[true, true, true, true, true, true, true, true, true, true, true, true, true, true, true, true, true, true, true, true, true, true, true, true, true, true, true, true, true, true, true, true, true, true, true, true, true, true, true, true, true, true, true, true, true, true, true, true, true, true, true, true, true, true, true, true, true, true, true, true] rfl rfl (any_of HT_.out (by kernel_rfl)) (fun _ _ _ h => h) (Or.inl ⟨by rfl, ?_⟩) ?_ ?_
                 rotate_left
                 ·intro w'
                  go_simp
                  with_reducible rfl
                 rotate_left
                 ·simp only [Act.put, List.setIfInBounds_toArray, List.set_cons_zero, List.set_cons_succ, i64_w, i32_w]
                  rfl
                 refine done_ (done_of HT_.out (by kernel_rfl)) ?_
                 try go_wp2
                 go_ret
                 exact ⟨by first | rfl | (simp [errW_none, errW_some] <;> rfl) | (simp [*, errW_none, errW_some] <;> rfl), by repeat (first | (with_reducible first | exact HB.out | apply below_alloc | apply pw_below_drewN | apply below_drew1 | refine below_set ?_ GE356.out | refine below_set ?_ GE365.out | refine below_set ?_ GE371.out | refine below_set ?_ GE372.out) | exact HB.out)⟩
                ·rw [if_neg c58] at H
                 exact absurd H (by simp)
               ·rw [if_neg c55] at H
                exact absurd H (by simp)
              ·rw [if_neg c52] at H
               exact absurd H (by simp)
             ·rw [if_neg c49] at H
              exact absurd H (by simp)
            ·rw [if_neg c46] at H
             exact absurd H (by simp)
       ·rw [if_neg c20] at H
        exact absurd H (by simp)
      ·rw [if_neg c19] at H
       exact absurd H (by simp)
    ·rw [if_neg c16] at H
     exact absurd H (by simp)
   ·rw [if_neg c15] at H
    exact absurd H (by simp)
  ·rw [if_neg c14] at H
   exact absurd H (by simp)
 ·replace c7 := Bool.eq_false_iff.mpr c7
  subst c7
  have H1 : (none) = some r := by rw [if_neg (show ¬ (false = true) by decide)] at H; exact H
  clear H
  have H := H1
  clear H1
  exact absurd H (by simp)
def letterlocklaw11_FreshChecks.Pure : Prop := ∀ (a0 : Int) (a1 : Int) (a2 : Int) (a3 : Int) (l4 : List Int), (Lit.int .i64 a0).wf = true → (Lit.int .u64 a1).wf = true → (Lit.int .u64 a2).wf = true → (Lit.int .u64 a3).wf = true → l4.length ≤ maxLen → l4.length * 8 ≤ 140737488351232 → (∀ x ∈ l4, (Lit.int .i64 x).wf = true) → ∃ k, letterlocklaw11_FreshChecks.f k a0 a1 a2 a3 l4 = some true
theorem letterlocklaw11_FreshChecks.walk (P : letterlocklaw11_FreshChecks.Pure) (a0 : Int) (a1 : Int) (a2 : Int) (a3 : Int) (a4 : Option Addr) (len4 cap4 : Nat) (z4 : List Int) (w : World) (w0 : (Lit.int .i64 a0).wf = true) (w1 : (Lit.int .u64 a1).wf = true) (w2 : (Lit.int .u64 a2).wf = true) (w3 : (Lit.int .u64 a3).wf = true) (w4 : (a4 = none ∧ len4 = 0 ∧ cap4 = 0 ∧ z4 = []) ∨ ∃ x, a4 = some x ∧ len4 ≤ cap4 ∧ cap4 ≤ maxLen ∧ z4.length = cap4 ∧ (∀ i, i < z4.length → w.cell? (x.add i) = some (.int .i64 (z4.getD i 0))) ∧ ∀ n ∈ z4, (Lit.int .i64 n).wf = true) (y4 : len4 * 8 ≤ 140737488351232) (hV : Laid8 w) :
  Calls Tryd.prog 6 #[.int .i64 a0, .int .u64 a1, .int .u64 a2, .int .u64 a3, .slice a4 len4 cap4] w fun e w' => e = .returned (.bool true) ∧ Below w.heap.size w w' := by
 obtain ⟨l4, rfl, hr4, hm4, hw4, hc4⟩ := ReadsInt.ofRowC w4
 obtain ⟨k, h⟩ := P a0 a1 a2 a3 l4 w0 w1 w2 w3 hm4 y4 hw4
 refine (letterlocklaw11_FreshChecks.calls k a0 a1 a2 a3 _ _ l4 true w (Kd.C_of_reads (d := (0 : Int)) (h1 := fun _ => rfl) hr4) hc4 h hV).mono ?_
 rintro e w' ⟨rfl, hd⟩
 exact ⟨rfl, hd⟩
end Go.Proofs.YtodiffgpefidoaaDoor.P

