/- Printed for this claim by wip/myprint.py out of the translation: Lean functions with the answers of the Go functions, and proofs that the Go code comes to them. Lean checks it. -/
import Derived.Test.YtbbcklpenafefaaG0
import Derived.Test.YtbbcklpenafefaaGLaw10
import Derived.Test.YtbbcklpenafefaaGLaw10S
import Derived.Test.YtbbcklpenafefaaXTree
namespace Go.Proofs.Ytbbcklpenafefaa.P
open Go.RowKit Go.Proofs.YtbbcklpenafefaaW.PrintWords Go.Proofs.YtbbcklpenafefaaW.PrintLast Go.Proofs.YtbbcklpenafefaaW.PrintMore
attribute [local go_sem] max2_int min2_int max_two min_two max_three min_three max_four min_four   -- for this text's walks alone
set_option linter.unusedVariables false
set_option linter.unusedSimpArgs false

/-! ### letterlocklaw10_TreeWay: function 7 -/
mutual
def letterlocklaw10_TreeWay.j0 : Nat → Int → Bool → List ByteArray → Bool → Option (Bool)
  | 0, _, _, _, _ => none
  | k + 1, x1, x5, x6, x28 => if x28 = true then (some x5) else ((letterlocklaw10_pick.f x1 (x6.length : Int)).bind fun t475 => ((tree_Proof.f k x6 t475).bind fun bt476 => (if bt476.2 = 0 then (letterlocklaw10_TreeWay.j1 k x6 t475 bt476.1 (decide ((bt476.1.length : Int) > 3))) else (letterlocklaw10_TreeWay.j1 k x6 t475 bt476.1 true))))
def letterlocklaw10_TreeWay.j1 : Nat → List ByteArray → Int → List ByteArray → Bool → Option (Bool)
  | 0, _, _, _, _ => none
  | k + 1, x6, x7, x8, x46 => if x46 = true then (some false) else ((letterlocklaw10_same1.f k x6).bind fun t480 => (if t480 = true then (some true) else (letterlocklaw10_TreeWay.l0 k x6 x8 x7 (wrap64 (x7 + 1)) 0)))
def letterlocklaw10_TreeWay.l0 : Nat → List ByteArray → List ByteArray → Int → Int → Int → Option (Bool)
  | 0, _, _, _, _, _ => none
  | k + 1, x6, x8, x10, x11, x12 => if x12 < (x8.length : Int) then (letterlocklaw10_TreeWay.l1 k x6 x8 x10 x11 x12 false 1) else (some ((wrap64 (x11 - x10)) == (x6.length : Int)))
def letterlocklaw10_TreeWay.l1 : Nat → List ByteArray → List ByteArray → Int → Int → Int → Bool → Int → Option (Bool)
  | 0, _, _, _, _, _, _, _ => none
  | k + 1, x6, x8, x10, x11, x12, x13, x14 => if x14 ≤ (x6.length : Int) then (letterlocklaw10_TreeWay.j4 k x6 x8 x10 x11 x12 x13 x14 (!x13)) else (letterlocklaw10_TreeWay.j4 k x6 x8 x10 x11 x12 x13 x14 false)
def letterlocklaw10_TreeWay.j4 : Nat → List ByteArray → List ByteArray → Int → Int → Int → Bool → Int → Bool → Option (Bool)
  | 0, _, _, _, _, _, _, _, _ => none
  | k + 1, x6, x8, x10, x11, x12, x13, x14, x65 => if x65 = true then (if (wrap64 (x11 + x14)) ≤ (x6.length : Int) then (if 0 ≤ x11 then (if x11 ≤ (wrap64 (x11 + x14)) then ((tree_Root.f k ((x6.take ((wrap64 (x11 + x14)) : Int).toNat).drop (x11 : Int).toNat)).bind fun bt485 => (if bt485.2 = 0 then (if 0 ≤ x12 then (if x12 < (x8.length : Int) then (if bt485.1.toList = (rdOf ByteArray.empty x8 x12).toList then (letterlocklaw10_TreeWay.j5 k x6 x8 x10 (wrap64 (x11 + x14)) x12 true x14) else (letterlocklaw10_TreeWay.j5 k x6 x8 x10 x11 x12 x13 x14)) else (none)) else (none)) else (letterlocklaw10_TreeWay.j5 k x6 x8 x10 x11 x12 x13 x14))) else (none)) else (none)) else (letterlocklaw10_TreeWay.j5 k x6 x8 x10 x11 x12 x13 x14)) else (if x13 = true then (letterlocklaw10_TreeWay.l0 k x6 x8 x10 x11 (wrap64 (x12 + 1))) else (some false))
def letterlocklaw10_TreeWay.j5 : Nat → List ByteArray → List ByteArray → Int → Int → Int → Bool → Int → Option (Bool)
  | 0, _, _, _, _, _, _, _ => none
  | k + 1, x6, x8, x10, x11, x12, x13, x14 => if x13 = true then (letterlocklaw10_TreeWay.j6 k x6 x8 x10 x11 x12 x13 x14 false) else (letterlocklaw10_TreeWay.j6 k x6 x8 x10 x11 x12 x13 x14 (decide (x10 ≥ x14)))
def letterlocklaw10_TreeWay.j6 : Nat → List ByteArray → List ByteArray → Int → Int → Int → Bool → Int → Bool → Option (Bool)
  | 0, _, _, _, _, _, _, _, _ => none
  | k + 1, x6, x8, x10, x11, x12, x13, x14, x103 => if x103 = true then (if 0 ≤ (wrap64 (x10 - x14)) then (if (wrap64 (x10 - x14)) ≤ x10 then (if x10 ≤ (x6.length : Int) then ((tree_Root.f k ((x6.take (x10 : Int).toNat).drop ((wrap64 (x10 - x14)) : Int).toNat)).bind fun bt492 => (if bt492.2 = 0 then (if 0 ≤ x12 then (if x12 < (x8.length : Int) then (if bt492.1.toList = (rdOf ByteArray.empty x8 x12).toList then (letterlocklaw10_TreeWay.l1 k x6 x8 (wrap64 (x10 - x14)) x11 x12 true (wrap64 (x14 + 1))) else (letterlocklaw10_TreeWay.l1 k x6 x8 x10 x11 x12 x13 (wrap64 (x14 + 1)))) else (none)) else (none)) else (letterlocklaw10_TreeWay.l1 k x6 x8 x10 x11 x12 x13 (wrap64 (x14 + 1))))) else (none)) else (none)) else (none)) else (letterlocklaw10_TreeWay.l1 k x6 x8 x10 x11 x12 x13 (wrap64 (x14 + 1)))
end
def letterlocklaw10_TreeWay.f (k : Nat) (l0 : List Int) (a1 : Int) : Option (Bool) := (letterlocklaw10_shown.f k).bind fun t471 => ((letterlocklaw10_row.f k l0).bind fun t472 => (if t471 = true then (letterlocklaw10_TreeWay.j0 k a1 t471 t472 ((t472.length : Int) == 0)) else (letterlocklaw10_TreeWay.j0 k a1 t471 t472 true)))
theorem letterlocklaw10_TreeWay.mono_l : ∀ k, (∀ y0 y1 y2 y3, LeO (letterlocklaw10_TreeWay.j0 k y0 y1 y2 y3) (letterlocklaw10_TreeWay.j0 (k + 1) y0 y1 y2 y3)) ∧ (∀ y0 y1 y2 y3, LeO (letterlocklaw10_TreeWay.j1 k y0 y1 y2 y3) (letterlocklaw10_TreeWay.j1 (k + 1) y0 y1 y2 y3)) ∧ (∀ y0 y1 y2 y3 y4, LeO (letterlocklaw10_TreeWay.l0 k y0 y1 y2 y3 y4) (letterlocklaw10_TreeWay.l0 (k + 1) y0 y1 y2 y3 y4)) ∧ (∀ y0 y1 y2 y3 y4 y5 y6, LeO (letterlocklaw10_TreeWay.l1 k y0 y1 y2 y3 y4 y5 y6) (letterlocklaw10_TreeWay.l1 (k + 1) y0 y1 y2 y3 y4 y5 y6)) ∧ (∀ y0 y1 y2 y3 y4 y5 y6 y7, LeO (letterlocklaw10_TreeWay.j4 k y0 y1 y2 y3 y4 y5 y6 y7) (letterlocklaw10_TreeWay.j4 (k + 1) y0 y1 y2 y3 y4 y5 y6 y7)) ∧ (∀ y0 y1 y2 y3 y4 y5 y6, LeO (letterlocklaw10_TreeWay.j5 k y0 y1 y2 y3 y4 y5 y6) (letterlocklaw10_TreeWay.j5 (k + 1) y0 y1 y2 y3 y4 y5 y6)) ∧ (∀ y0 y1 y2 y3 y4 y5 y6 y7, LeO (letterlocklaw10_TreeWay.j6 k y0 y1 y2 y3 y4 y5 y6 y7) (letterlocklaw10_TreeWay.j6 (k + 1) y0 y1 y2 y3 y4 y5 y6 y7))
  | 0 => ⟨fun _ _ _ _ r h => by simp [letterlocklaw10_TreeWay.j0] at h, fun _ _ _ _ r h => by simp [letterlocklaw10_TreeWay.j1] at h, fun _ _ _ _ _ r h => by simp [letterlocklaw10_TreeWay.l0] at h, fun _ _ _ _ _ _ _ r h => by simp [letterlocklaw10_TreeWay.l1] at h, fun _ _ _ _ _ _ _ _ r h => by simp [letterlocklaw10_TreeWay.j4] at h, fun _ _ _ _ _ _ _ r h => by simp [letterlocklaw10_TreeWay.j5] at h, fun _ _ _ _ _ _ _ _ r h => by simp [letterlocklaw10_TreeWay.j6] at h⟩
  | k + 1 => by
    obtain ⟨ih0, ih1, ih2, ih3, ih4, ih5, ih6⟩ := letterlocklaw10_TreeWay.mono_l k
    refine ⟨?_, ?_, ?_, ?_, ?_, ?_, ?_⟩
    · intro y0 y1 y2 y3
      unfold letterlocklaw10_TreeWay.j0
      repeat' first
      | (with_reducible exact ih0 _ _ _ _)
      | (with_reducible exact ih1 _ _ _ _)
      | (with_reducible exact ih2 _ _ _ _ _)
      | (with_reducible exact ih3 _ _ _ _ _ _ _)
      | (with_reducible exact ih4 _ _ _ _ _ _ _ _)
      | (with_reducible exact ih5 _ _ _ _ _ _ _)
      | (with_reducible exact ih6 _ _ _ _ _ _ _ _)
      | (with_reducible exact letterlocklaw10_row.mono _ _)
      | (with_reducible exact letterlocklaw10_same1.mono _ _)
      | (with_reducible exact letterlocklaw10_shown.mono _)
      | (with_reducible exact tree_Proof.mono _ _ _)
      | (with_reducible exact tree_Root.mono _ _)
      | (with_reducible exact LeO.refl _)
      | (with_reducible exact LeO.none _)
      | (with_reducible refine LeO.ite ?_ ?_)
      | (with_reducible refine LeO.bind ?_ (fun _ => ?_))
      | exact ih0 _ _ _ _
      | exact ih1 _ _ _ _
      | exact ih2 _ _ _ _ _
      | exact ih3 _ _ _ _ _ _ _
      | exact ih4 _ _ _ _ _ _ _ _
      | exact ih5 _ _ _ _ _ _ _
      | exact ih6 _ _ _ _ _ _ _ _
      | exact letterlocklaw10_row.mono _ _
      | exact letterlocklaw10_same1.mono _ _
      | exact letterlocklaw10_shown.mono _
      | exact tree_Proof.mono _ _ _
      | exact tree_Root.mono _ _
      | exact LeO.none _
      | refine LeO.ite ?_ ?_
      | refine LeO.bind ?_ (fun _ => ?_)
    · intro y0 y1 y2 y3
      unfold letterlocklaw10_TreeWay.j1
      repeat' first
      | (with_reducible exact ih0 _ _ _ _)
      | (with_reducible exact ih1 _ _ _ _)
      | (with_reducible exact ih2 _ _ _ _ _)
      | (with_reducible exact ih3 _ _ _ _ _ _ _)
      | (with_reducible exact ih4 _ _ _ _ _ _ _ _)
      | (with_reducible exact ih5 _ _ _ _ _ _ _)
      | (with_reducible exact ih6 _ _ _ _ _ _ _ _)
      | (with_reducible exact letterlocklaw10_row.mono _ _)
      | (with_reducible exact letterlocklaw10_same1.mono _ _)
      | (with_reducible exact letterlocklaw10_shown.mono _)
      | (with_reducible exact tree_Proof.mono _ _ _)
      | (with_reducible exact tree_Root.mono _ _)
      | (with_reducible exact LeO.refl _)
      | (with_reducible exact LeO.none _)
      | (with_reducible refine LeO.ite ?_ ?_)
      | (with_reducible refine LeO.bind ?_ (fun _ => ?_))
      | exact ih0 _ _ _ _
      | exact ih1 _ _ _ _
      | exact ih2 _ _ _ _ _
      | exact ih3 _ _ _ _ _ _ _
      | exact ih4 _ _ _ _ _ _ _ _
      | exact ih5 _ _ _ _ _ _ _
      | exact ih6 _ _ _ _ _ _ _ _
      | exact letterlocklaw10_row.mono _ _
      | exact letterlocklaw10_same1.mono _ _
      | exact letterlocklaw10_shown.mono _
      | exact tree_Proof.mono _ _ _
      | exact tree_Root.mono _ _
      | exact LeO.none _
      | refine LeO.ite ?_ ?_
      | refine LeO.bind ?_ (fun _ => ?_)
    · intro y0 y1 y2 y3 y4
      unfold letterlocklaw10_TreeWay.l0
      repeat' first
      | (with_reducible exact ih0 _ _ _ _)
      | (with_reducible exact ih1 _ _ _ _)
      | (with_reducible exact ih2 _ _ _ _ _)
      | (with_reducible exact ih3 _ _ _ _ _ _ _)
      | (with_reducible exact ih4 _ _ _ _ _ _ _ _)
      | (with_reducible exact ih5 _ _ _ _ _ _ _)
      | (with_reducible exact ih6 _ _ _ _ _ _ _ _)
      | (with_reducible exact letterlocklaw10_row.mono _ _)
      | (with_reducible exact letterlocklaw10_same1.mono _ _)
      | (with_reducible exact letterlocklaw10_shown.mono _)
      | (with_reducible exact tree_Proof.mono _ _ _)
      | (with_reducible exact tree_Root.mono _ _)
      | (with_reducible exact LeO.refl _)
      | (with_reducible exact LeO.none _)
      | (with_reducible refine LeO.ite ?_ ?_)
      | (with_reducible refine LeO.bind ?_ (fun _ => ?_))
      | exact ih0 _ _ _ _
      | exact ih1 _ _ _ _
      | exact ih2 _ _ _ _ _
      | exact ih3 _ _ _ _ _ _ _
      | exact ih4 _ _ _ _ _ _ _ _
      | exact ih5 _ _ _ _ _ _ _
      | exact ih6 _ _ _ _ _ _ _ _
      | exact letterlocklaw10_row.mono _ _
      | exact letterlocklaw10_same1.mono _ _
      | exact letterlocklaw10_shown.mono _
      | exact tree_Proof.mono _ _ _
      | exact tree_Root.mono _ _
      | exact LeO.none _
      | refine LeO.ite ?_ ?_
      | refine LeO.bind ?_ (fun _ => ?_)
    · intro y0 y1 y2 y3 y4 y5 y6
      unfold letterlocklaw10_TreeWay.l1
      repeat' first
      | (with_reducible exact ih0 _ _ _ _)
      | (with_reducible exact ih1 _ _ _ _)
      | (with_reducible exact ih2 _ _ _ _ _)
      | (with_reducible exact ih3 _ _ _ _ _ _ _)
      | (with_reducible exact ih4 _ _ _ _ _ _ _ _)
      | (with_reducible exact ih5 _ _ _ _ _ _ _)
      | (with_reducible exact ih6 _ _ _ _ _ _ _ _)
      | (with_reducible exact letterlocklaw10_row.mono _ _)
      | (with_reducible exact letterlocklaw10_same1.mono _ _)
      | (with_reducible exact letterlocklaw10_shown.mono _)
      | (with_reducible exact tree_Proof.mono _ _ _)
      | (with_reducible exact tree_Root.mono _ _)
      | (with_reducible exact LeO.refl _)
      | (with_reducible exact LeO.none _)
      | (with_reducible refine LeO.ite ?_ ?_)
      | (with_reducible refine LeO.bind ?_ (fun _ => ?_))
      | exact ih0 _ _ _ _
      | exact ih1 _ _ _ _
      | exact ih2 _ _ _ _ _
      | exact ih3 _ _ _ _ _ _ _
      | exact ih4 _ _ _ _ _ _ _ _
      | exact ih5 _ _ _ _ _ _ _
      | exact ih6 _ _ _ _ _ _ _ _
      | exact letterlocklaw10_row.mono _ _
      | exact letterlocklaw10_same1.mono _ _
      | exact letterlocklaw10_shown.mono _
      | exact tree_Proof.mono _ _ _
      | exact tree_Root.mono _ _
      | exact LeO.none _
      | refine LeO.ite ?_ ?_
      | refine LeO.bind ?_ (fun _ => ?_)
    · intro y0 y1 y2 y3 y4 y5 y6 y7
      unfold letterlocklaw10_TreeWay.j4
      repeat' first
      | (with_reducible exact ih0 _ _ _ _)
      | (with_reducible exact ih1 _ _ _ _)
      | (with_reducible exact ih2 _ _ _ _ _)
      | (with_reducible exact ih3 _ _ _ _ _ _ _)
      | (with_reducible exact ih4 _ _ _ _ _ _ _ _)
      | (with_reducible exact ih5 _ _ _ _ _ _ _)
      | (with_reducible exact ih6 _ _ _ _ _ _ _ _)
      | (with_reducible exact letterlocklaw10_row.mono _ _)
      | (with_reducible exact letterlocklaw10_same1.mono _ _)
      | (with_reducible exact letterlocklaw10_shown.mono _)
      | (with_reducible exact tree_Proof.mono _ _ _)
      | (with_reducible exact tree_Root.mono _ _)
      | (with_reducible exact LeO.refl _)
      | (with_reducible exact LeO.none _)
      | (with_reducible refine LeO.ite ?_ ?_)
      | (with_reducible refine LeO.bind ?_ (fun _ => ?_))
      | exact ih0 _ _ _ _
      | exact ih1 _ _ _ _
      | exact ih2 _ _ _ _ _
      | exact ih3 _ _ _ _ _ _ _
      | exact ih4 _ _ _ _ _ _ _ _
      | exact ih5 _ _ _ _ _ _ _
      | exact ih6 _ _ _ _ _ _ _ _
      | exact letterlocklaw10_row.mono _ _
      | exact letterlocklaw10_same1.mono _ _
      | exact letterlocklaw10_shown.mono _
      | exact tree_Proof.mono _ _ _
      | exact tree_Root.mono _ _
      | exact LeO.none _
      | refine LeO.ite ?_ ?_
      | refine LeO.bind ?_ (fun _ => ?_)
    · intro y0 y1 y2 y3 y4 y5 y6
      unfold letterlocklaw10_TreeWay.j5
      repeat' first
      | (with_reducible exact ih0 _ _ _ _)
      | (with_reducible exact ih1 _ _ _ _)
      | (with_reducible exact ih2 _ _ _ _ _)
      | (with_reducible exact ih3 _ _ _ _ _ _ _)
      | (with_reducible exact ih4 _ _ _ _ _ _ _ _)
      | (with_reducible exact ih5 _ _ _ _ _ _ _)
      | (with_reducible exact ih6 _ _ _ _ _ _ _ _)
      | (with_reducible exact letterlocklaw10_row.mono _ _)
      | (with_reducible exact letterlocklaw10_same1.mono _ _)
      | (with_reducible exact letterlocklaw10_shown.mono _)
      | (with_reducible exact tree_Proof.mono _ _ _)
      | (with_reducible exact tree_Root.mono _ _)
      | (with_reducible exact LeO.refl _)
      | (with_reducible exact LeO.none _)
      | (with_reducible refine LeO.ite ?_ ?_)
      | (with_reducible refine LeO.bind ?_ (fun _ => ?_))
      | exact ih0 _ _ _ _
      | exact ih1 _ _ _ _
      | exact ih2 _ _ _ _ _
      | exact ih3 _ _ _ _ _ _ _
      | exact ih4 _ _ _ _ _ _ _ _
      | exact ih5 _ _ _ _ _ _ _
      | exact ih6 _ _ _ _ _ _ _ _
      | exact letterlocklaw10_row.mono _ _
      | exact letterlocklaw10_same1.mono _ _
      | exact letterlocklaw10_shown.mono _
      | exact tree_Proof.mono _ _ _
      | exact tree_Root.mono _ _
      | exact LeO.none _
      | refine LeO.ite ?_ ?_
      | refine LeO.bind ?_ (fun _ => ?_)
    · intro y0 y1 y2 y3 y4 y5 y6 y7
      unfold letterlocklaw10_TreeWay.j6
      repeat' first
      | (with_reducible exact ih0 _ _ _ _)
      | (with_reducible exact ih1 _ _ _ _)
      | (with_reducible exact ih2 _ _ _ _ _)
      | (with_reducible exact ih3 _ _ _ _ _ _ _)
      | (with_reducible exact ih4 _ _ _ _ _ _ _ _)
      | (with_reducible exact ih5 _ _ _ _ _ _ _)
      | (with_reducible exact ih6 _ _ _ _ _ _ _ _)
      | (with_reducible exact letterlocklaw10_row.mono _ _)
      | (with_reducible exact letterlocklaw10_same1.mono _ _)
      | (with_reducible exact letterlocklaw10_shown.mono _)
      | (with_reducible exact tree_Proof.mono _ _ _)
      | (with_reducible exact tree_Root.mono _ _)
      | (with_reducible exact LeO.refl _)
      | (with_reducible exact LeO.none _)
      | (with_reducible refine LeO.ite ?_ ?_)
      | (with_reducible refine LeO.bind ?_ (fun _ => ?_))
      | exact ih0 _ _ _ _
      | exact ih1 _ _ _ _
      | exact ih2 _ _ _ _ _
      | exact ih3 _ _ _ _ _ _ _
      | exact ih4 _ _ _ _ _ _ _ _
      | exact ih5 _ _ _ _ _ _ _
      | exact ih6 _ _ _ _ _ _ _ _
      | exact letterlocklaw10_row.mono _ _
      | exact letterlocklaw10_same1.mono _ _
      | exact letterlocklaw10_shown.mono _
      | exact tree_Proof.mono _ _ _
      | exact tree_Root.mono _ _
      | exact LeO.none _
      | refine LeO.ite ?_ ?_
      | refine LeO.bind ?_ (fun _ => ?_)
theorem letterlocklaw10_TreeWay.mono : ∀ a0 a1 k, LeO (letterlocklaw10_TreeWay.f k a0 a1) (letterlocklaw10_TreeWay.f (k + 1) a0 a1) := by
  intro a0 a1 k
  obtain ⟨ih0, ih1, ih2, ih3, ih4, ih5, ih6⟩ := letterlocklaw10_TreeWay.mono_l k
  unfold letterlocklaw10_TreeWay.f
  repeat' first
      | (with_reducible exact ih0 _ _ _ _)
      | (with_reducible exact ih1 _ _ _ _)
      | (with_reducible exact ih2 _ _ _ _ _)
      | (with_reducible exact ih3 _ _ _ _ _ _ _)
      | (with_reducible exact ih4 _ _ _ _ _ _ _ _)
      | (with_reducible exact ih5 _ _ _ _ _ _ _)
      | (with_reducible exact ih6 _ _ _ _ _ _ _ _)
      | (with_reducible exact letterlocklaw10_row.mono _ _)
      | (with_reducible exact letterlocklaw10_same1.mono _ _)
      | (with_reducible exact letterlocklaw10_shown.mono _)
      | (with_reducible exact tree_Proof.mono _ _ _)
      | (with_reducible exact tree_Root.mono _ _)
      | (with_reducible exact LeO.refl _)
      | (with_reducible exact LeO.none _)
      | (with_reducible refine LeO.ite ?_ ?_)
      | (with_reducible refine LeO.bind ?_ (fun _ => ?_))
      | exact ih0 _ _ _ _
      | exact ih1 _ _ _ _
      | exact ih2 _ _ _ _ _
      | exact ih3 _ _ _ _ _ _ _
      | exact ih4 _ _ _ _ _ _ _ _
      | exact ih5 _ _ _ _ _ _ _
      | exact ih6 _ _ _ _ _ _ _ _
      | exact letterlocklaw10_row.mono _ _
      | exact letterlocklaw10_same1.mono _ _
      | exact letterlocklaw10_shown.mono _
      | exact tree_Proof.mono _ _ _
      | exact tree_Root.mono _ _
      | exact LeO.none _
      | refine LeO.ite ?_ ?_
      | refine LeO.bind ?_ (fun _ => ?_)
set_option maxHeartbeats 8000000 in
set_option maxRecDepth 100000 in
theorem letterlocklaw10_TreeWay.calls (k : Nat) (A0 : Option Addr) (c0 : Nat) (l0 : List Int) (a1 : Int) (r : Bool) (w : World) (hr0 : Kd.C (Kd.int .i64) w A0 l0.length l0) (hc0 : l0.length ≤ c0) (h : letterlocklaw10_TreeWay.f k l0 a1 = some r) :
    Calls Try.prog 7 #[.slice A0 l0.length c0, .int .i64 a1] w fun e w' => e = .returned (.bool r) ∧ Below w.heap.size w w' := by
  have HR0 := Aside0.mk hr0
  have HC0 := Aside0.mk hc0
  clear hr0 hc0
  have HB := Aside0.mk (Below.refl w.heap.size w)
  have H : ((letterlocklaw10_shown.f k).bind fun t471 => ((letterlocklaw10_row.f k l0).bind fun t472 => (if t471 = true then (letterlocklaw10_TreeWay.j0 k a1 t471 t472 ((t472.length : Int) == 0)) else (letterlocklaw10_TreeWay.j0 k a1 t471 t472 true)))) = some r := h
  clear h
  replace H := Option.bind_eq_some_iff.mp H
  obtain ⟨t471, A30, H⟩ := H
  replace H : ((letterlocklaw10_row.f k l0).bind fun t472 => (if t471 = true then (letterlocklaw10_TreeWay.j0 k a1 t471 t472 ((t472.length : Int) == 0)) else (letterlocklaw10_TreeWay.j0 k a1 t471 t472 true))) = some r := H
  have A3 := Aside0.mk A30
  clear A30
  replace H := Option.bind_eq_some_iff.mp H
  obtain ⟨t472, A40, H⟩ := H
  replace H : (if t471 = true then (letterlocklaw10_TreeWay.j0 k a1 t471 t472 ((t472.length : Int) == 0)) else (letterlocklaw10_TreeWay.j0 k a1 t471 t472 true)) = some r := H
  have A4 := Aside0.mk A40
  clear A40
  have HC5 := Aside0.mk H
  clear H
  go_enter Try.func7, Try.ntmps7
  go_upto_region 3 with (first | ((with_reducible refine gate_callee (f := 9) rfl ?_); refine goesL_ (some 19) rfl rfl Try.func9 (by kernel_rfl) rfl #[] rfl (by (try simp only [List.map_toArray, List.map_cons, List.map_nil]); first | done | rfl | (simp only [List.length_drop, List.length_take]; rfl)) ?_; (with_reducible refine (letterlocklaw10_shown.calls k  t471 _ A3.out).mono ?_); rintro e w6 ⟨rfl, hb⟩; refine ⟨_, rfl, ?_⟩; have n0_ := Aside0.mk (below_step (by repeat (first | (with_reducible first | exact HB.out | apply below_alloc | apply pw_below_drewN | apply below_drew1) | exact HB.out)) hb); clear HB; have HB := n0_; clear n0_; (try clear hb); (try clear hb2); (try clear hk); (try clear hi)) | ((with_reducible refine gate_callee (f := 10) rfl ?_); refine goesL_ (some 21) rfl rfl Try.func10 (by kernel_rfl) rfl #[.slice A0 l0.length c0] rfl (by (try simp only [List.map_toArray, List.map_cons, List.map_nil]); first | done | rfl | (simp only [List.length_drop, List.length_take]; rfl)) ?_; (with_reducible refine (letterlocklaw10_row.calls k _ _ l0 t472 _ ?side1 ?side2 A4.out).mono ?_); (case side1 => repeat (first | exact (Kd.C_below HR0.out HB.out) | (with_reducible refine Kd.C_alloc ?_ _) | (with_reducible refine Kd.C_drewN ?_ _) | (with_reducible refine Kd.C_drew ?_))); (case side2 => exact HC0.out); rintro e w7 ⟨v473, rfl, ho0, hb⟩; refine ⟨_, rfl, ?_⟩; have n0_ := Aside0.mk (Kd.R_lower ho0 (below_size (by repeat (first | (with_reducible first | exact HB.out | apply below_alloc | apply pw_below_drewN | apply below_drew1) | exact HB.out)))); have n1_ := Aside0.mk (below_step (by repeat (first | (with_reducible first | exact HB.out | apply below_alloc | apply pw_below_drewN | apply below_drew1) | exact HB.out)) hb); clear HB; have HO474 := n0_; have HB := n1_; clear n0_ n1_; (try clear hb); (try clear hb2); (try clear hk); (try clear hi); (try clear ho0)))
  (try simp only [Act.put, List.setIfInBounds_toArray, List.set_cons_zero, List.set_cons_succ])
  go_cut [28] (fun v28 wc => ∃ (kq : Nat) (x28_4 : Bool), v28 = .bool x28_4 ∧ Aside0 (letterlocklaw10_TreeWay.j0 kq a1 t471 t472 x28_4 = some r) ∧ Aside0 (kq ≤ k) ∧ Aside0 (Kd.R Kd.string 9 wc w.heap.size (fun _ => True) v473 t472) ∧ Aside0 (Below w.heap.size w wc))
  case first => as_aux_lemma =>
    have H := HC5.out
    clear HC5
    by_cases c8 : t471 = true
    · subst c8
      have H1 : (letterlocklaw10_TreeWay.j0 k a1 true t472 ((t472.length : Int) == 0)) = some r := by rw [if_pos rfl] at H; exact H
      clear H
      have H := H1
      clear H1
      have H' := Aside0.mk H
      clear H
      obtain ⟨Ao9, co9, eo9⟩ := Kd.R_slice HO474.out
      subst eo9
      go_wp2
      go_meet
      case rel => exact ⟨_, (((t472.length : Int) == 0)), (by first | rfl | (simp; done) | (simp [*]; done) | (simp; exact isEmpty_ne _)), H', ⟨by first | omega | exact Nat.le_refl _⟩, ⟨by (with_reducible repeat (first | apply Kd.R_alloc | apply Kd.R_drewN | apply Kd.R_drew)); exact HO474.out⟩, ⟨by repeat (first | (with_reducible first | exact HB.out | apply below_alloc | apply pw_below_drewN | apply below_drew1) | exact HB.out)⟩⟩
    · replace c8 := Bool.eq_false_iff.mpr c8
      subst c8
      have H1 : (letterlocklaw10_TreeWay.j0 k a1 false t472 true) = some r := by rw [if_neg (show ¬ (false = true) by decide)] at H; exact H
      clear H
      have H := H1
      clear H1
      have H' := Aside0.mk H
      clear H
      go_wp2
      go_meet
      case rel => exact ⟨_, (true), (by first | rfl | (simp; done) | (simp [*]; done) | (simp; exact isEmpty_ne _)), H', ⟨by first | omega | exact Nat.le_refl _⟩, ⟨by (with_reducible repeat (first | apply Kd.R_alloc | apply Kd.R_drewN | apply Kd.R_drew)); exact HO474.out⟩, ⟨by repeat (first | (with_reducible first | exact HB.out | apply below_alloc | apply pw_below_drewN | apply below_drew1) | exact HB.out)⟩⟩
  case rest => as_aux_lemma =>
    clear HC5
    try clear c1
    try clear p2
    try clear c7
    try clear c8
    try clear c9
    obtain ⟨kq, x28_4, rfl, HA, HJ4, HO_6, HB⟩ := hcut
    cases kq with
    | zero => exact absurd HA.out (by simp [letterlocklaw10_TreeWay.j0])
    | succ kj4 =>
      have H := HA.out
      clear HA
      simp only [letterlocklaw10_TreeWay.j0] at H
      by_cases c10 : x28_4 = true
      · subst c10
        have H1 : (some t471) = some r := by rw [if_pos rfl] at H; exact H
        clear H
        have H := H1
        clear H1
        obtain rfl := Option.some.inj H
        go_wp2
        go_ret
        exact ⟨by first | rfl | (simp [errW_none, errW_some] <;> rfl) | (simp [*, errW_none, errW_some] <;> rfl), by repeat (first | (with_reducible first | exact HB.out | apply below_alloc | apply pw_below_drewN | apply below_drew1) | exact HB.out)⟩
      · replace c10 := Bool.eq_false_iff.mpr c10
        subst c10
        have H1 : ((letterlocklaw10_pick.f a1 (t472.length : Int)).bind fun t475 => ((tree_Proof.f kj4 t472 t475).bind fun bt476 => (if bt476.2 = 0 then (letterlocklaw10_TreeWay.j1 kj4 t472 t475 bt476.1 (decide ((bt476.1.length : Int) > 3))) else (letterlocklaw10_TreeWay.j1 kj4 t472 t475 bt476.1 true)))) = some r := by rw [if_neg (show ¬ (false = true) by decide)] at H; exact H
        clear H
        have H := H1
        clear H1
        replace H := Option.bind_eq_some_iff.mp H
        obtain ⟨t475, A110, H⟩ := H
        replace H : ((tree_Proof.f kj4 t472 t475).bind fun bt476 => (if bt476.2 = 0 then (letterlocklaw10_TreeWay.j1 kj4 t472 t475 bt476.1 (decide ((bt476.1.length : Int) > 3))) else (letterlocklaw10_TreeWay.j1 kj4 t472 t475 bt476.1 true))) = some r := H
        have A11 := Aside0.mk A110
        clear A110
        replace H := Option.bind_eq_some_iff.mp H
        obtain ⟨⟨t476, t477⟩, A120, H⟩ := H
        replace H : (if t477 = 0 then (letterlocklaw10_TreeWay.j1 kj4 t472 t475 t476 (decide ((t476.length : Int) > 3))) else (letterlocklaw10_TreeWay.j1 kj4 t472 t475 t476 true)) = some r := H
        have A12 := Aside0.mk A120
        clear A120
        have HC13 := Aside0.mk H
        clear H
        obtain ⟨Ao14, co14, eo14⟩ := Kd.R_slice HO_6.out
        subst eo14
        go_upto_region 7 with (first | ((with_reducible refine gate_callee (f := 13) rfl ?_); refine goesL_ (some 33) rfl rfl Try.func13 (by kernel_rfl) rfl #[.int .i64 a1, .int .i64 (t472.length : Int)] rfl (by (try simp only [List.map_toArray, List.map_cons, List.map_nil]); first | done | rfl | (simp only [List.length_drop, List.length_take]; rfl)) ?_; (with_reducible refine (letterlocklaw10_pick.calls a1 (t472.length : Int) t475 _ A11.out).mono ?_); rintro e w' ⟨rfl, ⟨nd, rfl⟩⟩; refine ⟨_, rfl, ?_⟩) | ((with_reducible refine gate_callee (f := 21) rfl ?_); refine goesL_ (some 37) rfl rfl Try.func21 (by kernel_rfl) rfl #[.slice Ao14 t472.length co14, .int .i64 t475] rfl (by (try simp only [List.map_toArray, List.map_cons, List.map_nil]); first | done | rfl | (simp only [List.length_drop, List.length_take]; rfl)) ?_; (with_reducible refine (tree_Proof.calls kj4 _ _ t472 t475 t476 t477 _ ?side1 ?side2 A12.out).mono ?_); (case side1 => repeat (first | exact (Kd.R_reads' HO_6.out).2.2 | (with_reducible refine Kd.C_alloc ?_ _) | (with_reducible refine Kd.C_drewN ?_ _) | (with_reducible refine Kd.C_drew ?_))); (case side2 => exact (Kd.R_reads' HO_6.out).2.1); rintro e w15 ⟨v478, rfl, ho0, hb⟩; refine ⟨_, rfl, ?_⟩; have n0_ := Aside0.mk (Kd.R_elder' (by (with_reducible repeat (first | apply Kd.R_alloc | apply Kd.R_drewN | apply Kd.R_drew)); exact HO_6.out) (Kd.R_base ho0) hb); have n1_ := Aside0.mk (Kd.R_lower (Kd.R_new' ho0 (Kd.R_lt (by (with_reducible repeat (first | apply Kd.R_alloc | apply Kd.R_drewN | apply Kd.R_drew)); exact HO_6.out))) (below_size (by repeat (first | (with_reducible first | exact HB.out | apply below_alloc | apply pw_below_drewN | apply below_drew1) | exact HB.out)))); have n2_ := Aside0.mk (below_step (by repeat (first | (with_reducible first | exact HB.out | apply below_alloc | apply pw_below_drewN | apply below_drew1) | exact HB.out)) hb); clear HO_6; clear HB; have HO_6 := n0_; have HO479 := n1_; have HB := n2_; clear n0_ n1_ n2_; (try clear hb); (try clear hb2); (try clear hk); (try clear hi); (try clear ho0)))
        (try simp only [Act.put, List.setIfInBounds_toArray, List.set_cons_zero, List.set_cons_succ])
        go_cut [46] (fun v46 wc => ∃ (kq : Nat) (x46_12 : Bool), v46 = .bool x46_12 ∧ Aside0 (letterlocklaw10_TreeWay.j1 kq t472 t475 t476 x46_12 = some r) ∧ Aside0 (kq ≤ kj4) ∧ Aside0 (Kd.R Kd.string 9 wc w.heap.size (fun k_ => some k_ ≠ (v478 : Value).ownBlock) (.slice Ao14 t472.length co14) t472) ∧ Aside0 (Kd.R Kd.string 9 wc w.heap.size (fun k_ => some k_ ≠ ((.slice Ao14 t472.length co14) : Value).ownBlock) v478 t476) ∧ Aside0 (Below w.heap.size w wc))
        case first => as_aux_lemma =>
          have H := HC13.out
          clear HC13
          by_cases c16 : t477 = 0
          · rw [if_pos c16] at H
            have c16b0 : (t477 == 0) = true := beq_iff_eq.mpr c16
            have c16b1 : (t477 != 0) = false := bne_eq_false_iff_eq.mpr c16
            clear c16
            (first | rw [c16b0] | (simp only [i64_w, i32_w]; rw [c16b0]) | skip)
            have H' := Aside0.mk H
            clear H
            obtain ⟨Ao17, co17, eo17⟩ := Kd.R_slice HO479.out
            subst eo17
            go_wp2
            go_meet
            case rel => exact ⟨_, (decide ((t476.length : Int) > 3)), (by first | rfl | (simp; done) | (simp [*]; done) | (simp; exact isEmpty_ne _)), H', ⟨by have := HJ4.out; first | omega | exact Nat.le_refl _⟩, ⟨by (with_reducible repeat (first | apply Kd.R_alloc | apply Kd.R_drewN | apply Kd.R_drew)); exact Kd.R_mono HO_6.out (fun _ hk => hk.2)⟩, ⟨by (with_reducible repeat (first | apply Kd.R_alloc | apply Kd.R_drewN | apply Kd.R_drew)); exact Kd.R_mono HO479.out (fun _ hk => hk.2)⟩, ⟨by repeat (first | (with_reducible first | exact HB.out | apply below_alloc | apply pw_below_drewN | apply below_drew1) | exact HB.out)⟩⟩
          · rw [if_neg c16] at H
            have c16b0 : (t477 == 0) = false := beq_eq_false_iff_ne.mpr c16
            have c16b1 : (t477 != 0) = true := bne_iff_ne.mpr c16
            (first | rw [c16b0] | (simp only [i64_w, i32_w]; rw [c16b0]) | skip)
            have H' := Aside0.mk H
            clear H
            go_wp2
            go_meet
            case rel => exact ⟨_, (true), (by first | rfl | (simp; done) | (simp [*]; done) | (simp; exact isEmpty_ne _)), H', ⟨by have := HJ4.out; first | omega | exact Nat.le_refl _⟩, ⟨by (with_reducible repeat (first | apply Kd.R_alloc | apply Kd.R_drewN | apply Kd.R_drew)); exact Kd.R_mono HO_6.out (fun _ hk => hk.2)⟩, ⟨by (with_reducible repeat (first | apply Kd.R_alloc | apply Kd.R_drewN | apply Kd.R_drew)); exact Kd.R_mono HO479.out (fun _ hk => hk.2)⟩, ⟨by repeat (first | (with_reducible first | exact HB.out | apply below_alloc | apply pw_below_drewN | apply below_drew1) | exact HB.out)⟩⟩
        case rest => as_aux_lemma =>
          clear HC13
          try clear c1
          try clear c2
          try clear p2
          try clear c7
          try clear c8
          try clear c9
          try clear c10
          try clear c13
          try clear c16
          try clear c16b0
          try clear c16b1
          try clear p2
          obtain ⟨kq, x46_12, rfl, HA, HJ12, HO_6, HO_8, HB⟩ := hcut
          cases kq with
          | zero => exact absurd HA.out (by simp [letterlocklaw10_TreeWay.j1])
          | succ kj12 =>
            have H := HA.out
            clear HA
            simp only [letterlocklaw10_TreeWay.j1] at H
            by_cases c18 : x46_12 = true
            · subst c18
              have H1 : (some false) = some r := by rw [if_pos rfl] at H; exact H
              clear H
              have H := H1
              clear H1
              obtain rfl := Option.some.inj H
              go_wp2
              go_ret
              exact ⟨by first | rfl | (simp [errW_none, errW_some] <;> rfl) | (simp [*, errW_none, errW_some] <;> rfl), by repeat (first | (with_reducible first | exact HB.out | apply below_alloc | apply pw_below_drewN | apply below_drew1) | exact HB.out)⟩
            · replace c18 := Bool.eq_false_iff.mpr c18
              subst c18
              have H1 : ((letterlocklaw10_same1.f kj12 t472).bind fun t480 => (if t480 = true then (some true) else (letterlocklaw10_TreeWay.l0 kj12 t472 t476 t475 (wrap64 (t475 + 1)) 0))) = some r := by rw [if_neg (show ¬ (false = true) by decide)] at H; exact H
              clear H
              have H := H1
              clear H1
              replace H := Option.bind_eq_some_iff.mp H
              obtain ⟨t480, A190, H⟩ := H
              replace H : (if t480 = true then (some true) else (letterlocklaw10_TreeWay.l0 kj12 t472 t476 t475 (wrap64 (t475 + 1)) 0)) = some r := H
              have A19 := Aside0.mk A190
              clear A190
              by_cases c20 : t480 = true
              · subst c20
                have H1 : (some true) = some r := by rw [if_pos rfl] at H; exact H
                clear H
                have H := H1
                clear H1
                obtain rfl := Option.some.inj H
                go_wp2_with (first | ((with_reducible refine gate_callee (f := 25) rfl ?_); refine goesL_ (some 48) rfl rfl Try.func25 (by kernel_rfl) rfl #[.slice Ao14 t472.length co14] rfl (by (try simp only [List.map_toArray, List.map_cons, List.map_nil]); first | done | rfl | (simp only [List.length_drop, List.length_take]; rfl)) ?_; (with_reducible refine (letterlocklaw10_same1.calls kj12 _ _ t472 true _ ?side1 ?side2 A19.out).mono ?_); (case side1 => repeat (first | exact (Kd.R_reads' HO_6.out).2.2 | (with_reducible refine Kd.C_alloc ?_ _) | (with_reducible refine Kd.C_drewN ?_ _) | (with_reducible refine Kd.C_drew ?_))); (case side2 => exact (Kd.R_reads' HO_6.out).2.1); rintro e w' ⟨rfl, ⟨nd, rfl⟩⟩; refine ⟨_, rfl, ?_⟩))
                go_ret
                exact ⟨by first | rfl | (simp [errW_none, errW_some] <;> rfl) | (simp [*, errW_none, errW_some] <;> rfl), by repeat (first | (with_reducible first | exact HB.out | apply below_alloc | apply pw_below_drewN | apply below_drew1) | exact HB.out)⟩
              · replace c20 := Bool.eq_false_iff.mpr c20
                subst c20
                have H1 : (letterlocklaw10_TreeWay.l0 kj12 t472 t476 t475 (wrap64 (t475 + 1)) 0) = some r := by rw [if_neg (show ¬ (false = true) by decide)] at H; exact H
                clear H
                have H := H1
                clear H1
                have H' := Aside0.mk H
                clear H
                go_wp2_with (first | ((with_reducible refine gate_callee (f := 25) rfl ?_); refine goesL_ (some 48) rfl rfl Try.func25 (by kernel_rfl) rfl #[.slice Ao14 t472.length co14] rfl (by (try simp only [List.map_toArray, List.map_cons, List.map_nil]); first | done | rfl | (simp only [List.length_drop, List.length_take]; rfl)) ?_; (with_reducible refine (letterlocklaw10_same1.calls kj12 _ _ t472 false _ ?side1 ?side2 A19.out).mono ?_); (case side1 => repeat (first | exact (Kd.R_reads' HO_6.out).2.2 | (with_reducible refine Kd.C_alloc ?_ _) | (with_reducible refine Kd.C_drewN ?_ _) | (with_reducible refine Kd.C_drew ?_))); (case side2 => exact (Kd.R_reads' HO_6.out).2.1); rintro e w' ⟨rfl, ⟨nd, rfl⟩⟩; refine ⟨_, rfl, ?_⟩))
                go_loopg [10, 11, 12] kj12 (fun kq v10 v11 v12 w' => ∃ (x10_3 : Int) (x11_3 : Int) (x12_3 : Int), v10 = .int .i64 x10_3 ∧ v11 = .int .i64 x11_3 ∧ v12 = .int .i64 x12_3 ∧ Aside0 (letterlocklaw10_TreeWay.l0 kq t472 t476 x10_3 x11_3 x12_3 = some r) ∧ Aside0 (kq ≤ kj12) ∧ Aside0 (Kd.R Kd.string 9 w' w.heap.size (fun k_ => some k_ ≠ (v478 : Value).ownBlock) (.slice Ao14 t472.length co14) t472) ∧ Aside0 (Kd.R Kd.string 9 w' w.heap.size (fun k_ => some k_ ≠ ((.slice Ao14 t472.length co14) : Value).ownBlock) v478 t476) ∧ Aside0 (Below w.heap.size w w'))
                case atStart => exact ⟨(t475), (wrap64 (t475 + 1)), (0), (by first | rfl | (simp; done) | (simp [*]; done) | (simp; exact isEmpty_ne _)), (by first | rfl | (simp; done) | (simp [*]; done) | (simp; exact isEmpty_ne _)), (by first | rfl | (simp; done) | (simp [*]; done) | (simp; exact isEmpty_ne _)), H', ⟨Nat.le_refl _⟩, ⟨by (with_reducible repeat (first | apply Kd.R_alloc | apply Kd.R_drewN | apply Kd.R_drew)); exact HO_6.out⟩, ⟨by (with_reducible repeat (first | apply Kd.R_alloc | apply Kd.R_drewN | apply Kd.R_drew)); exact HO_8.out⟩, ⟨by repeat (first | (with_reducible first | exact HB.out | apply below_alloc | apply pw_below_drewN | apply below_drew1) | exact HB.out)⟩⟩
                case round => as_aux_lemma =>
                  clear H'
                  try clear c1
                  try clear c2
                  try clear p2
                  try clear p6
                  try clear c7
                  try clear c8
                  try clear c9
                  try clear c10
                  try clear c13
                  try clear c16
                  try clear c16b0
                  try clear c16b1
                  try clear c18
                  try clear c20
                  try clear p2
                  obtain ⟨x10_3, x11_3, x12_3, rfl, rfl, rfl, HA, HK3, HO_6, HO_8, HB⟩ := hrel
                  cases gk with
                  | zero => exact absurd HA.out (by simp [letterlocklaw10_TreeWay.l0])
                  | succ k3 =>
                    have H := HA.out
                    clear HA
                    simp only [letterlocklaw10_TreeWay.l0] at H
                    by_cases c21 : x12_3 < (t476.length : Int)
                    · rw [if_pos c21] at H
                      have c21b0 : decide (x12_3 < (t476.length : Int)) = true := decide_eq_true c21
                      clear c21
                      have H' := Aside0.mk H
                      clear H
                      obtain ⟨Ao22, co22, eo22⟩ := Kd.R_slice HO_8.out
                      subst eo22
                      go_wp2
                      go_loopg [10, 11, 13, 14] k3 (fun kq v10 v11 v13 v14 w' => ∃ (x10_4 : Int) (x11_4 : Int) (x13_4 : Bool) (x14_4 : Int), v10 = .int .i64 x10_4 ∧ v11 = .int .i64 x11_4 ∧ v13 = .bool x13_4 ∧ v14 = .int .i64 x14_4 ∧ Aside0 (letterlocklaw10_TreeWay.l1 kq t472 t476 x10_4 x11_4 x12_3 x13_4 x14_4 = some r) ∧ Aside0 (kq ≤ k3) ∧ Aside0 (Kd.R Kd.string 9 w' w.heap.size (fun k_ => some k_ ≠ ((.slice Ao22 t476.length co22) : Value).ownBlock) (.slice Ao14 t472.length co14) t472) ∧ Aside0 (Kd.R Kd.string 9 w' w.heap.size (fun k_ => some k_ ≠ ((.slice Ao14 t472.length co14) : Value).ownBlock) (.slice Ao22 t476.length co22) t476) ∧ Aside0 (Below w.heap.size w w'))
                      case atStart => exact ⟨(x10_3), (x11_3), (false), (1), (by first | rfl | (simp; done) | (simp [*]; done) | (simp; exact isEmpty_ne _)), (by first | rfl | (simp; done) | (simp [*]; done) | (simp; exact isEmpty_ne _)), (by first | rfl | (simp; done) | (simp [*]; done) | (simp; exact isEmpty_ne _)), (by first | rfl | (simp; done) | (simp [*]; done) | (simp; exact isEmpty_ne _)), H', ⟨Nat.le_refl _⟩, ⟨by (with_reducible repeat (first | apply Kd.R_alloc | apply Kd.R_drewN | apply Kd.R_drew)); exact HO_6.out⟩, ⟨by (with_reducible repeat (first | apply Kd.R_alloc | apply Kd.R_drewN | apply Kd.R_drew)); exact HO_8.out⟩, ⟨by repeat (first | (with_reducible first | exact HB.out | apply below_alloc | apply pw_below_drewN | apply below_drew1) | exact HB.out)⟩⟩
                      case round => as_aux_lemma =>
                        clear H'
                        try clear c1
                        try clear c2
                        try clear p2
                        try clear p6
                        try clear c7
                        try clear c8
                        try clear c9
                        try clear c10
                        try clear c13
                        try clear c16
                        try clear c16b0
                        try clear c16b1
                        try clear c18
                        try clear c20
                        try clear c21
                        try clear p2
                        try clear p6
                        obtain ⟨x10_4, x11_4, x13_4, x14_4, rfl, rfl, rfl, rfl, HA, HK4, HO_6, HO_8, HB⟩ := hrel
                        cases gk with
                        | zero => exact absurd HA.out (by simp [letterlocklaw10_TreeWay.l1])
                        | succ k4 =>
                          have H := HA.out
                          clear HA
                          simp only [letterlocklaw10_TreeWay.l1] at H
                          have HC23 := Aside0.mk H
                          clear H
                          go_upto_region 18 with (fail)
                          go_cut [65] (fun v65 wc => ∃ (kq : Nat) (x65_22 : Bool), v65 = .bool x65_22 ∧ Aside0 (letterlocklaw10_TreeWay.j4 kq t472 t476 x10_4 x11_4 x12_3 x13_4 x14_4 x65_22 = some r) ∧ Aside0 (kq ≤ k4) ∧ Aside0 (Kd.R Kd.string 9 wc w.heap.size (fun k_ => some k_ ≠ ((.slice Ao22 t476.length co22) : Value).ownBlock) (.slice Ao14 t472.length co14) t472) ∧ Aside0 (Kd.R Kd.string 9 wc w.heap.size (fun k_ => some k_ ≠ ((.slice Ao14 t472.length co14) : Value).ownBlock) (.slice Ao22 t476.length co22) t476) ∧ Aside0 (Below w.heap.size w wc))
                          case first => as_aux_lemma =>
                            have H := HC23.out
                            clear HC23
                            by_cases c24 : x14_4 ≤ (t472.length : Int)
                            · rw [if_pos c24] at H
                              have c24b0 : decide (x14_4 ≤ (t472.length : Int)) = true := decide_eq_true c24
                              clear c24
                              (first | rw [c24b0] | (simp only [i64_w, i32_w]; rw [c24b0]) | skip)
                              have H' := Aside0.mk H
                              clear H
                              go_wp2
                              go_meet
                              case rel => exact ⟨_, (!x13_4), (by first | rfl | (simp; done) | (simp [*]; done) | (simp; exact isEmpty_ne _)), H', ⟨by have := HJ4.out; have := HJ12.out; have := HK3.out; have := HK4.out; first | omega | exact Nat.le_refl _⟩, ⟨by (with_reducible repeat (first | apply Kd.R_alloc | apply Kd.R_drewN | apply Kd.R_drew)); exact HO_6.out⟩, ⟨by (with_reducible repeat (first | apply Kd.R_alloc | apply Kd.R_drewN | apply Kd.R_drew)); exact HO_8.out⟩, ⟨by repeat (first | (with_reducible first | exact HB.out | apply below_alloc | apply pw_below_drewN | apply below_drew1) | exact HB.out)⟩⟩
                            · rw [if_neg c24] at H
                              have c24b0 : decide (x14_4 ≤ (t472.length : Int)) = false := decide_eq_false c24
                              clear c24
                              (first | rw [c24b0] | (simp only [i64_w, i32_w]; rw [c24b0]) | skip)
                              have H' := Aside0.mk H
                              clear H
                              go_wp2
                              go_meet
                              case rel => exact ⟨_, (false), (by first | rfl | (simp; done) | (simp [*]; done) | (simp; exact isEmpty_ne _)), H', ⟨by have := HJ4.out; have := HJ12.out; have := HK3.out; have := HK4.out; first | omega | exact Nat.le_refl _⟩, ⟨by (with_reducible repeat (first | apply Kd.R_alloc | apply Kd.R_drewN | apply Kd.R_drew)); exact HO_6.out⟩, ⟨by (with_reducible repeat (first | apply Kd.R_alloc | apply Kd.R_drewN | apply Kd.R_drew)); exact HO_8.out⟩, ⟨by repeat (first | (with_reducible first | exact HB.out | apply below_alloc | apply pw_below_drewN | apply below_drew1) | exact HB.out)⟩⟩
                          case rest => as_aux_lemma =>
                            clear HC23
                            try clear c1
                            try clear c2
                            try clear p2
                            try clear p6
                            try clear c7
                            try clear c8
                            try clear c9
                            try clear c10
                            try clear c13
                            try clear c16
                            try clear c16b0
                            try clear c16b1
                            try clear c18
                            try clear c20
                            try clear c21
                            try clear c24
                            try clear c24b0
                            try clear p2
                            try clear p6
                            obtain ⟨kq, x65_22, rfl, HA, HJ22, HO_6, HO_8, HB⟩ := hcut
                            cases kq with
                            | zero => exact absurd HA.out (by simp [letterlocklaw10_TreeWay.j4])
                            | succ kj22 =>
                              have H := HA.out
                              clear HA
                              simp only [letterlocklaw10_TreeWay.j4] at H
                              by_cases c25 : x65_22 = true
                              · subst c25
                                have H1 : (if (wrap64 (x11_4 + x14_4)) ≤ (t472.length : Int) then (if 0 ≤ x11_4 then (if x11_4 ≤ (wrap64 (x11_4 + x14_4)) then ((tree_Root.f kj22 ((t472.take ((wrap64 (x11_4 + x14_4)) : Int).toNat).drop (x11_4 : Int).toNat)).bind fun bt485 => (if bt485.2 = 0 then (if 0 ≤ x12_3 then (if x12_3 < (t476.length : Int) then (if bt485.1.toList = (rdOf ByteArray.empty t476 x12_3).toList then (letterlocklaw10_TreeWay.j5 kj22 t472 t476 x10_4 (wrap64 (x11_4 + x14_4)) x12_3 true x14_4) else (letterlocklaw10_TreeWay.j5 kj22 t472 t476 x10_4 x11_4 x12_3 x13_4 x14_4)) else (none)) else (none)) else (letterlocklaw10_TreeWay.j5 kj22 t472 t476 x10_4 x11_4 x12_3 x13_4 x14_4))) else (none)) else (none)) else (letterlocklaw10_TreeWay.j5 kj22 t472 t476 x10_4 x11_4 x12_3 x13_4 x14_4)) = some r := by rw [if_pos rfl] at H; exact H
                                clear H
                                have H := H1
                                clear H1
                                have HC26 := Aside0.mk H
                                clear H
                                go_upto_if 73 with (fail)
                                go_cut [11, 13] (fun v11 v13 wc => ∃ (kq : Nat) (x11_25 : Int) (x13_25 : Bool), v11 = .int .i64 x11_25 ∧ v13 = .bool x13_25 ∧ Aside0 (letterlocklaw10_TreeWay.j5 kq t472 t476 x10_4 x11_25 x12_3 x13_25 x14_4 = some r) ∧ Aside0 (kq ≤ kj22) ∧ Aside0 (Kd.R Kd.string 9 wc w.heap.size (fun k_ => some k_ ≠ ((.slice Ao22 t476.length co22) : Value).ownBlock) (.slice Ao14 t472.length co14) t472) ∧ Aside0 (Kd.R Kd.string 9 wc w.heap.size (fun k_ => some k_ ≠ ((.slice Ao14 t472.length co14) : Value).ownBlock) (.slice Ao22 t476.length co22) t476) ∧ Aside0 (Below w.heap.size w wc))
                                case first => as_aux_lemma =>
                                  have H := HC26.out
                                  clear HC26
                                  by_cases c27 : (wrap64 (x11_4 + x14_4)) ≤ (t472.length : Int)
                                  · rw [if_pos c27] at H
                                    have c27b0 : decide ((wrap64 (x11_4 + x14_4)) ≤ (t472.length : Int)) = true := decide_eq_true c27
                                    clear c27
                                    (first | rw [c27b0] | (simp only [i64_w, i32_w]; rw [c27b0]) | skip)
                                    by_cases c28 : 0 ≤ x11_4
                                    · rw [if_pos c28] at H
                                      have c28b0 := eq_true c28
                                      have c28b1 : decide (0 ≤ x11_4) = true := decide_eq_true c28
                                      clear c28
                                      by_cases c29 : x11_4 ≤ (wrap64 (x11_4 + x14_4))
                                      · rw [if_pos c29] at H
                                        have c29b0 := eq_true c29
                                        have c29b1 : decide (x11_4 ≤ (wrap64 (x11_4 + x14_4))) = true := decide_eq_true c29
                                        have c30b0 := eq_true (of_decide_eq_true (by first | (with_reducible assumption) | assumption) : (wrap64 (x11_4 + x14_4)) ≤ (t472.length : Int))
                                        obtain ⟨y481, hy481⟩ : ∃ y_ : List ByteArray, y_ = ((t472.take ((wrap64 (x11_4 + x14_4)) : Int).toNat).drop (x11_4 : Int).toNat) := ⟨_, rfl⟩
                                        replace H : ((tree_Root.f kj22 y481).bind fun bt485 => (if bt485.2 = 0 then (if 0 ≤ x12_3 then (if x12_3 < (t476.length : Int) then (if bt485.1.toList = (rdOf ByteArray.empty t476 x12_3).toList then (letterlocklaw10_TreeWay.j5 kj22 t472 t476 x10_4 (wrap64 (x11_4 + x14_4)) x12_3 true x14_4) else (letterlocklaw10_TreeWay.j5 kj22 t472 t476 x10_4 x11_4 x12_3 x13_4 x14_4)) else (none)) else (none)) else (letterlocklaw10_TreeWay.j5 kj22 t472 t476 x10_4 x11_4 x12_3 x13_4 x14_4))) = some r := by first | (rw [hy481]; with_reducible exact H) | (have H2_ := (Option.bind_some _ _).symm.trans H; rw [hy481]; with_reducible exact H2_) | (have H2_ := (Option.bind_some _ _).symm.trans H; with_reducible exact H2_) | with_reducible exact H | (rw [hy481]; exact H) | exact H
                                        have Ny481 := Aside0.mk hy481
                                        clear hy481
                                        replace H := Option.bind_eq_some_iff.mp H
                                        obtain ⟨⟨t485, t486⟩, A310, H⟩ := H
                                        replace H : (if t486 = 0 then (if 0 ≤ x12_3 then (if x12_3 < (t476.length : Int) then (if t485.toList = (rdOf ByteArray.empty t476 x12_3).toList then (letterlocklaw10_TreeWay.j5 kj22 t472 t476 x10_4 (wrap64 (x11_4 + x14_4)) x12_3 true x14_4) else (letterlocklaw10_TreeWay.j5 kj22 t472 t476 x10_4 x11_4 x12_3 x13_4 x14_4)) else (none)) else (none)) else (letterlocklaw10_TreeWay.j5 kj22 t472 t476 x10_4 x11_4 x12_3 x13_4 x14_4)) = some r := H
                                        have A31 := Aside0.mk A310
                                        clear A310
                                        by_cases c32 : t486 = 0
                                        · rw [if_pos c32] at H
                                          have c32b0 : (t486 == 0) = true := beq_iff_eq.mpr c32
                                          have c32b1 : (t486 != 0) = false := bne_eq_false_iff_eq.mpr c32
                                          clear c32
                                          by_cases c33 : 0 ≤ x12_3
                                          · rw [if_pos c33] at H
                                            have c33b0 : decide (0 ≤ x12_3) = true := decide_eq_true c33
                                            clear c33
                                            have c34 : x12_3 < (t476.length : Int) := (by first | exact of_decide_eq_true c21b0 | exact of_eq_true c21b0)
                                            rw [if_pos c34] at H
                                            clear c34
                                            by_cases c35 : t485.toList = (rdOf ByteArray.empty t476 x12_3).toList
                                            · rw [if_pos c35] at H
                                              have c35b0 : (t485.toList == (rdOf ByteArray.empty t476 x12_3).toList) = true := beq_iff_eq.mpr c35
                                              have c35b1 : (t485.toList != (rdOf ByteArray.empty t476 x12_3).toList) = false := bne_eq_false_iff_eq.mpr c35
                                              clear c35
                                              have H' := Aside0.mk H
                                              clear H
                                              have q36 : ((wrap64 (x11_4 + x14_4)) : Int) ≤ ((t472.length : Int) : Int) := of_decide_eq_true (by first | (with_reducible assumption) | assumption)
                                              obtain ⟨i036, hi036, _, hsz36, _⟩ := info_parts info9
                                              have hroom36 : t472.length ≤ co14 := (Kd.R_reads' HO_6.out).2.1
                                              have hC36 : Kd.C Kd.string _ Ao14 t472.length t472 := (Kd.R_reads' HO_6.out).2.2
                                              have ql36 : (x11_4 : Int) ≤ ((wrap64 (x11_4 + x14_4)) : Int) := of_decide_eq_true (by first | (with_reducible assumption) | assumption)
                                              have q036 : (0 : Int) ≤ (x11_4 : Int) := of_decide_eq_true (by first | (with_reducible assumption) | assumption)
                                              have hcut36 := cut_mid (P := Try.prog) 24 9 .i64 .i64 Try.underlying24 hi036 1 hsz36 Ao14 t472.length co14 x11_4 (wrap64 (x11_4 + x14_4)) q036 ql36 q36 hroom36
                                              have hr36 := Kd.C_mid (lo := (x11_4 : Int).toNat) (hi := ((wrap64 (x11_4 + x14_4)) : Int).toNat) (c := co14) hC36 (by omega) (by omega) hroom36
                                              obtain ⟨A36, hA36⟩ : ∃ A1, A1 = (if co14 = (x11_4 : Int).toNat then Ao14 else (Ao14 : Option Addr).map (·.add ((x11_4 : Int).toNat * 1))) := ⟨_, rfl⟩
                                              obtain ⟨c36, hc36⟩ : ∃ c1, c1 = co14 - (x11_4 : Int).toNat := ⟨_, rfl⟩
                                              have hy36 : y481.length = ((wrap64 (x11_4 + x14_4)) : Int).toNat - (x11_4 : Int).toNat := (by rw [Ny481.out, List.length_drop, List.length_take] <;> omega)
                                              rw [show ((t472).take ((wrap64 (x11_4 + x14_4)) : Int).toNat).drop (x11_4 : Int).toNat = y481 from Ny481.out.symm] at hr36
                                              replace hr36 : Kd.C Kd.string _ A36 y481.length y481 := (by rw [hA36]; exact hr36)
                                              rw [← hy36, ← hA36, ← hc36] at hcut36
                                              have HR484 := Aside0.mk hr36
                                              have HC484 := Aside0.mk (show y481.length ≤ c36 from by rw [hy36, hc36]; exact Nat.sub_le_sub_right (Nat.le_trans (by omega) hroom36) _)
                                              clear hr36 hC36 hroom36 hi036 hsz36 hc36
                                              have KY36 := Aside0.mk hy36
                                              have KA36 := Aside0.mk hA36
                                              clear hy36 hA36
                                              have KL36 := Aside0.mk (show ((wrap64 (x11_4 + x14_4)) : Int).toNat ≤ t472.length from by omega)
                                              have KM36 := Aside0.mk (show (x11_4 : Int).toNat ≤ ((wrap64 (x11_4 + x14_4)) : Int).toNat from by omega)
                                              replace q36 := eq_true q36
                                              go_wp2_with (first | ((with_reducible refine gate_callee (f := 11) rfl ?_); refine goesL_ (some 81) rfl rfl Try.func11 (by kernel_rfl) rfl #[.slice A36 y481.length c36] rfl (by (try simp only [List.map_toArray, List.map_cons, List.map_nil]); first | done | rfl | (simp only [List.length_drop, List.length_take]; rfl)) ?_; (with_reducible refine (tree_Root.calls kj22 _ _ y481 t485 t486 _ ?side1 ?side2 A31.out).mono ?_); (case side1 => repeat (first | exact (by repeat (first | (with_reducible exact HR484.out) | (with_reducible refine Kd.C_alloc ?_ _) | (with_reducible refine Kd.C_drewN ?_ _) | (with_reducible refine Kd.C_drew ?_) | exact HR484.out)) | (with_reducible refine Kd.C_alloc ?_ _) | (with_reducible refine Kd.C_drewN ?_ _) | (with_reducible refine Kd.C_drew ?_))); (case side2 => exact HC484.out); rintro e w37 ⟨rfl, hb⟩; refine ⟨_, rfl, ?_⟩; have n0_ := Aside0.mk (Kd.R_below (by (with_reducible repeat (first | apply Kd.R_alloc | apply Kd.R_drewN | apply Kd.R_drew)); exact HO_6.out) hb); have n1_ := Aside0.mk (Kd.R_below (by (with_reducible repeat (first | apply Kd.R_alloc | apply Kd.R_drewN | apply Kd.R_drew)); exact HO_8.out) hb); have n2_ := Aside0.mk (Kd.C_below (by repeat (first | (with_reducible exact HR484.out) | (with_reducible refine Kd.C_alloc ?_ _) | (with_reducible refine Kd.C_drewN ?_ _) | (with_reducible refine Kd.C_drew ?_) | exact HR484.out)) hb); have n3_ := Aside0.mk (below_step (by repeat (first | (with_reducible first | exact HB.out | apply below_alloc | apply pw_below_drewN | apply below_drew1) | exact HB.out)) hb); clear HO_6; clear HO_8; clear HR484; clear HB; have HO_6 := n0_; have HO_8 := n1_; have HR484 := n2_; have HB := n3_; clear n0_ n1_ n2_ n3_; (try clear hb); (try clear hb2); (try clear hk); (try clear hi); have p487 : 0 ≤ (x12_3 : Int) := of_decide_eq_true (by first | (with_reducible assumption) | assumption); have q487 : x12_3 < (t476.length : Int) := of_decide_eq_true (by first | (with_reducible assumption) | assumption); obtain ⟨ad487, e487, hx487_0⟩ := Kd.at_string (Kd.R_reads' HO_8.out).2.2 x12_3 p487 q487; cases e487; replace p487 := eq_true p487; replace q487 := eq_true q487))
                                              go_meet
                                              case rel => exact ⟨_, (wrap64 (x11_4 + x14_4)), (true), (by first | rfl | (simp; done) | (simp [*]; done) | (simp; exact isEmpty_ne _)), (by first | rfl | (simp; done) | (simp [*]; done) | (simp; exact isEmpty_ne _)), H', ⟨by have := HJ4.out; have := HJ12.out; have := HK3.out; have := HK4.out; have := HJ22.out; first | omega | exact Nat.le_refl _⟩, ⟨by (with_reducible repeat (first | apply Kd.R_alloc | apply Kd.R_drewN | apply Kd.R_drew)); exact HO_6.out⟩, ⟨by (with_reducible repeat (first | apply Kd.R_alloc | apply Kd.R_drewN | apply Kd.R_drew)); exact HO_8.out⟩, ⟨by repeat (first | (with_reducible first | exact HB.out | apply below_alloc | apply pw_below_drewN | apply below_drew1) | exact HB.out)⟩⟩
                                            · rw [if_neg c35] at H
                                              have c35b0 : (t485.toList == (rdOf ByteArray.empty t476 x12_3).toList) = false := beq_eq_false_iff_ne.mpr c35
                                              have c35b1 : (t485.toList != (rdOf ByteArray.empty t476 x12_3).toList) = true := bne_iff_ne.mpr c35
                                              have H' := Aside0.mk H
                                              clear H
                                              have q38 : ((wrap64 (x11_4 + x14_4)) : Int) ≤ ((t472.length : Int) : Int) := of_decide_eq_true (by first | (with_reducible assumption) | assumption)
                                              obtain ⟨i038, hi038, _, hsz38, _⟩ := info_parts info9
                                              have hroom38 : t472.length ≤ co14 := (Kd.R_reads' HO_6.out).2.1
                                              have hC38 : Kd.C Kd.string _ Ao14 t472.length t472 := (Kd.R_reads' HO_6.out).2.2
                                              have ql38 : (x11_4 : Int) ≤ ((wrap64 (x11_4 + x14_4)) : Int) := of_decide_eq_true (by first | (with_reducible assumption) | assumption)
                                              have q038 : (0 : Int) ≤ (x11_4 : Int) := of_decide_eq_true (by first | (with_reducible assumption) | assumption)
                                              have hcut38 := cut_mid (P := Try.prog) 24 9 .i64 .i64 Try.underlying24 hi038 1 hsz38 Ao14 t472.length co14 x11_4 (wrap64 (x11_4 + x14_4)) q038 ql38 q38 hroom38
                                              have hr38 := Kd.C_mid (lo := (x11_4 : Int).toNat) (hi := ((wrap64 (x11_4 + x14_4)) : Int).toNat) (c := co14) hC38 (by omega) (by omega) hroom38
                                              obtain ⟨A38, hA38⟩ : ∃ A1, A1 = (if co14 = (x11_4 : Int).toNat then Ao14 else (Ao14 : Option Addr).map (·.add ((x11_4 : Int).toNat * 1))) := ⟨_, rfl⟩
                                              obtain ⟨c38, hc38⟩ : ∃ c1, c1 = co14 - (x11_4 : Int).toNat := ⟨_, rfl⟩
                                              have hy38 : y481.length = ((wrap64 (x11_4 + x14_4)) : Int).toNat - (x11_4 : Int).toNat := (by rw [Ny481.out, List.length_drop, List.length_take] <;> omega)
                                              rw [show ((t472).take ((wrap64 (x11_4 + x14_4)) : Int).toNat).drop (x11_4 : Int).toNat = y481 from Ny481.out.symm] at hr38
                                              replace hr38 : Kd.C Kd.string _ A38 y481.length y481 := (by rw [hA38]; exact hr38)
                                              rw [← hy38, ← hA38, ← hc38] at hcut38
                                              have HR484 := Aside0.mk hr38
                                              have HC484 := Aside0.mk (show y481.length ≤ c38 from by rw [hy38, hc38]; exact Nat.sub_le_sub_right (Nat.le_trans (by omega) hroom38) _)
                                              clear hr38 hC38 hroom38 hi038 hsz38 hc38
                                              have KY38 := Aside0.mk hy38
                                              have KA38 := Aside0.mk hA38
                                              clear hy38 hA38
                                              have KL38 := Aside0.mk (show ((wrap64 (x11_4 + x14_4)) : Int).toNat ≤ t472.length from by omega)
                                              have KM38 := Aside0.mk (show (x11_4 : Int).toNat ≤ ((wrap64 (x11_4 + x14_4)) : Int).toNat from by omega)
                                              replace q38 := eq_true q38
                                              go_wp2_with (first | ((with_reducible refine gate_callee (f := 11) rfl ?_); refine goesL_ (some 81) rfl rfl Try.func11 (by kernel_rfl) rfl #[.slice A38 y481.length c38] rfl (by (try simp only [List.map_toArray, List.map_cons, List.map_nil]); first | done | rfl | (simp only [List.length_drop, List.length_take]; rfl)) ?_; (with_reducible refine (tree_Root.calls kj22 _ _ y481 t485 t486 _ ?side1 ?side2 A31.out).mono ?_); (case side1 => repeat (first | exact (by repeat (first | (with_reducible exact HR484.out) | (with_reducible refine Kd.C_alloc ?_ _) | (with_reducible refine Kd.C_drewN ?_ _) | (with_reducible refine Kd.C_drew ?_) | exact HR484.out)) | (with_reducible refine Kd.C_alloc ?_ _) | (with_reducible refine Kd.C_drewN ?_ _) | (with_reducible refine Kd.C_drew ?_))); (case side2 => exact HC484.out); rintro e w39 ⟨rfl, hb⟩; refine ⟨_, rfl, ?_⟩; have n0_ := Aside0.mk (Kd.R_below (by (with_reducible repeat (first | apply Kd.R_alloc | apply Kd.R_drewN | apply Kd.R_drew)); exact HO_6.out) hb); have n1_ := Aside0.mk (Kd.R_below (by (with_reducible repeat (first | apply Kd.R_alloc | apply Kd.R_drewN | apply Kd.R_drew)); exact HO_8.out) hb); have n2_ := Aside0.mk (Kd.C_below (by repeat (first | (with_reducible exact HR484.out) | (with_reducible refine Kd.C_alloc ?_ _) | (with_reducible refine Kd.C_drewN ?_ _) | (with_reducible refine Kd.C_drew ?_) | exact HR484.out)) hb); have n3_ := Aside0.mk (below_step (by repeat (first | (with_reducible first | exact HB.out | apply below_alloc | apply pw_below_drewN | apply below_drew1) | exact HB.out)) hb); clear HO_6; clear HO_8; clear HR484; clear HB; have HO_6 := n0_; have HO_8 := n1_; have HR484 := n2_; have HB := n3_; clear n0_ n1_ n2_ n3_; (try clear hb); (try clear hb2); (try clear hk); (try clear hi); have p487 : 0 ≤ (x12_3 : Int) := of_decide_eq_true (by first | (with_reducible assumption) | assumption); have q487 : x12_3 < (t476.length : Int) := of_decide_eq_true (by first | (with_reducible assumption) | assumption); obtain ⟨ad487, e487, hx487_0⟩ := Kd.at_string (Kd.R_reads' HO_8.out).2.2 x12_3 p487 q487; cases e487; replace p487 := eq_true p487; replace q487 := eq_true q487))
                                              go_meet
                                              case rel => exact ⟨_, (x11_4), (x13_4), (by first | rfl | (simp; done) | (simp [*]; done) | (simp; exact isEmpty_ne _)), (by first | rfl | (simp; done) | (simp [*]; done) | (simp; exact isEmpty_ne _)), H', ⟨by have := HJ4.out; have := HJ12.out; have := HK3.out; have := HK4.out; have := HJ22.out; first | omega | exact Nat.le_refl _⟩, ⟨by (with_reducible repeat (first | apply Kd.R_alloc | apply Kd.R_drewN | apply Kd.R_drew)); exact HO_6.out⟩, ⟨by (with_reducible repeat (first | apply Kd.R_alloc | apply Kd.R_drewN | apply Kd.R_drew)); exact HO_8.out⟩, ⟨by repeat (first | (with_reducible first | exact HB.out | apply below_alloc | apply pw_below_drewN | apply below_drew1) | exact HB.out)⟩⟩
                                          · rw [if_neg c33] at H
                                            exact absurd H (by simp)
                                        · rw [if_neg c32] at H
                                          have c32b0 : (t486 == 0) = false := beq_eq_false_iff_ne.mpr c32
                                          have c32b1 : (t486 != 0) = true := bne_iff_ne.mpr c32
                                          have H' := Aside0.mk H
                                          clear H
                                          have q40 : ((wrap64 (x11_4 + x14_4)) : Int) ≤ ((t472.length : Int) : Int) := of_decide_eq_true (by first | (with_reducible assumption) | assumption)
                                          obtain ⟨i040, hi040, _, hsz40, _⟩ := info_parts info9
                                          have hroom40 : t472.length ≤ co14 := (Kd.R_reads' HO_6.out).2.1
                                          have hC40 : Kd.C Kd.string _ Ao14 t472.length t472 := (Kd.R_reads' HO_6.out).2.2
                                          have ql40 : (x11_4 : Int) ≤ ((wrap64 (x11_4 + x14_4)) : Int) := of_decide_eq_true (by first | (with_reducible assumption) | assumption)
                                          have q040 : (0 : Int) ≤ (x11_4 : Int) := of_decide_eq_true (by first | (with_reducible assumption) | assumption)
                                          have hcut40 := cut_mid (P := Try.prog) 24 9 .i64 .i64 Try.underlying24 hi040 1 hsz40 Ao14 t472.length co14 x11_4 (wrap64 (x11_4 + x14_4)) q040 ql40 q40 hroom40
                                          have hr40 := Kd.C_mid (lo := (x11_4 : Int).toNat) (hi := ((wrap64 (x11_4 + x14_4)) : Int).toNat) (c := co14) hC40 (by omega) (by omega) hroom40
                                          obtain ⟨A40, hA40⟩ : ∃ A1, A1 = (if co14 = (x11_4 : Int).toNat then Ao14 else (Ao14 : Option Addr).map (·.add ((x11_4 : Int).toNat * 1))) := ⟨_, rfl⟩
                                          obtain ⟨c40, hc40⟩ : ∃ c1, c1 = co14 - (x11_4 : Int).toNat := ⟨_, rfl⟩
                                          have hy40 : y481.length = ((wrap64 (x11_4 + x14_4)) : Int).toNat - (x11_4 : Int).toNat := (by rw [Ny481.out, List.length_drop, List.length_take] <;> omega)
                                          rw [show ((t472).take ((wrap64 (x11_4 + x14_4)) : Int).toNat).drop (x11_4 : Int).toNat = y481 from Ny481.out.symm] at hr40
                                          replace hr40 : Kd.C Kd.string _ A40 y481.length y481 := (by rw [hA40]; exact hr40)
                                          rw [← hy40, ← hA40, ← hc40] at hcut40
                                          have HR484 := Aside0.mk hr40
                                          have HC484 := Aside0.mk (show y481.length ≤ c40 from by rw [hy40, hc40]; exact Nat.sub_le_sub_right (Nat.le_trans (by omega) hroom40) _)
                                          clear hr40 hC40 hroom40 hi040 hsz40 hc40
                                          have KY40 := Aside0.mk hy40
                                          have KA40 := Aside0.mk hA40
                                          clear hy40 hA40
                                          have KL40 := Aside0.mk (show ((wrap64 (x11_4 + x14_4)) : Int).toNat ≤ t472.length from by omega)
                                          have KM40 := Aside0.mk (show (x11_4 : Int).toNat ≤ ((wrap64 (x11_4 + x14_4)) : Int).toNat from by omega)
                                          replace q40 := eq_true q40
                                          go_wp2_with (first | ((with_reducible refine gate_callee (f := 11) rfl ?_); refine goesL_ (some 81) rfl rfl Try.func11 (by kernel_rfl) rfl #[.slice A40 y481.length c40] rfl (by (try simp only [List.map_toArray, List.map_cons, List.map_nil]); first | done | rfl | (simp only [List.length_drop, List.length_take]; rfl)) ?_; (with_reducible refine (tree_Root.calls kj22 _ _ y481 t485 t486 _ ?side1 ?side2 A31.out).mono ?_); (case side1 => repeat (first | exact (by repeat (first | (with_reducible exact HR484.out) | (with_reducible refine Kd.C_alloc ?_ _) | (with_reducible refine Kd.C_drewN ?_ _) | (with_reducible refine Kd.C_drew ?_) | exact HR484.out)) | (with_reducible refine Kd.C_alloc ?_ _) | (with_reducible refine Kd.C_drewN ?_ _) | (with_reducible refine Kd.C_drew ?_))); (case side2 => exact HC484.out); rintro e w41 ⟨rfl, hb⟩; refine ⟨_, rfl, ?_⟩; have n0_ := Aside0.mk (Kd.R_below (by (with_reducible repeat (first | apply Kd.R_alloc | apply Kd.R_drewN | apply Kd.R_drew)); exact HO_6.out) hb); have n1_ := Aside0.mk (Kd.R_below (by (with_reducible repeat (first | apply Kd.R_alloc | apply Kd.R_drewN | apply Kd.R_drew)); exact HO_8.out) hb); have n2_ := Aside0.mk (Kd.C_below (by repeat (first | (with_reducible exact HR484.out) | (with_reducible refine Kd.C_alloc ?_ _) | (with_reducible refine Kd.C_drewN ?_ _) | (with_reducible refine Kd.C_drew ?_) | exact HR484.out)) hb); have n3_ := Aside0.mk (below_step (by repeat (first | (with_reducible first | exact HB.out | apply below_alloc | apply pw_below_drewN | apply below_drew1) | exact HB.out)) hb); clear HO_6; clear HO_8; clear HR484; clear HB; have HO_6 := n0_; have HO_8 := n1_; have HR484 := n2_; have HB := n3_; clear n0_ n1_ n2_ n3_; (try clear hb); (try clear hb2); (try clear hk); (try clear hi)))
                                          go_meet
                                          case rel => exact ⟨_, (x11_4), (x13_4), (by first | rfl | (simp; done) | (simp [*]; done) | (simp; exact isEmpty_ne _)), (by first | rfl | (simp; done) | (simp [*]; done) | (simp; exact isEmpty_ne _)), H', ⟨by have := HJ4.out; have := HJ12.out; have := HK3.out; have := HK4.out; have := HJ22.out; first | omega | exact Nat.le_refl _⟩, ⟨by (with_reducible repeat (first | apply Kd.R_alloc | apply Kd.R_drewN | apply Kd.R_drew)); exact HO_6.out⟩, ⟨by (with_reducible repeat (first | apply Kd.R_alloc | apply Kd.R_drewN | apply Kd.R_drew)); exact HO_8.out⟩, ⟨by repeat (first | (with_reducible first | exact HB.out | apply below_alloc | apply pw_below_drewN | apply below_drew1) | exact HB.out)⟩⟩
                                      · rw [if_neg c29] at H
                                        exact absurd H (by simp)
                                    · rw [if_neg c28] at H
                                      exact absurd H (by simp)
                                  · rw [if_neg c27] at H
                                    have c27b0 : decide ((wrap64 (x11_4 + x14_4)) ≤ (t472.length : Int)) = false := decide_eq_false c27
                                    clear c27
                                    (first | rw [c27b0] | (simp only [i64_w, i32_w]; rw [c27b0]) | skip)
                                    have H' := Aside0.mk H
                                    clear H
                                    go_wp2
                                    go_meet
                                    case rel => exact ⟨_, (x11_4), (x13_4), (by first | rfl | (simp; done) | (simp [*]; done) | (simp; exact isEmpty_ne _)), (by first | rfl | (simp; done) | (simp [*]; done) | (simp; exact isEmpty_ne _)), H', ⟨by have := HJ4.out; have := HJ12.out; have := HK3.out; have := HK4.out; have := HJ22.out; first | omega | exact Nat.le_refl _⟩, ⟨by (with_reducible repeat (first | apply Kd.R_alloc | apply Kd.R_drewN | apply Kd.R_drew)); exact HO_6.out⟩, ⟨by (with_reducible repeat (first | apply Kd.R_alloc | apply Kd.R_drewN | apply Kd.R_drew)); exact HO_8.out⟩, ⟨by repeat (first | (with_reducible first | exact HB.out | apply below_alloc | apply pw_below_drewN | apply below_drew1) | exact HB.out)⟩⟩
                                case rest => as_aux_lemma =>
                                  clear HC26
                                  try clear c1
                                  try clear c2
                                  try clear p2
                                  try clear c3
                                  try clear q3
                                  try clear c4
                                  try clear p4
                                  try clear q4
                                  try clear hx4
                                  try clear p6
                                  try clear c7
                                  try clear c8
                                  try clear c9
                                  try clear c10
                                  try clear c11
                                  try clear c13
                                  try clear c16
                                  try clear c16b0
                                  try clear c16b1
                                  try clear c18
                                  try clear c20
                                  try clear c21
                                  try clear c24
                                  try clear c24b0
                                  try clear c25
                                  try clear c27
                                  try clear c27b0
                                  try clear c28
                                  try clear c28b0
                                  try clear c28b1
                                  try clear c29
                                  try clear c29b0
                                  try clear c29b1
                                  try clear c30
                                  try clear c30b0
                                  try clear c32
                                  try clear c32b0
                                  try clear c32b1
                                  try clear c33
                                  try clear c33b0
                                  try clear c34
                                  try clear c34b0
                                  try clear c35
                                  try clear c35b0
                                  try clear c35b1
                                  try clear c36
                                  try clear q36
                                  try clear c38
                                  try clear q38
                                  try clear c40
                                  try clear q40
                                  try clear hx487_0
                                  try clear p2
                                  try clear p487
                                  try clear p6
                                  try clear q036
                                  try clear q038
                                  try clear q040
                                  try clear q36
                                  try clear q38
                                  try clear q40
                                  try clear q487
                                  obtain ⟨kq, x11_25, x13_25, rfl, rfl, HA, HJ25, HO_6, HO_8, HB⟩ := hcut
                                  cases kq with
                                  | zero => exact absurd HA.out (by simp [letterlocklaw10_TreeWay.j5])
                                  | succ kj25 =>
                                    have H := HA.out
                                    clear HA
                                    simp only [letterlocklaw10_TreeWay.j5] at H
                                    have HC42 := Aside0.mk H
                                    clear H
                                    go_upto_region 25 with (fail)
                                    go_cut [103] (fun v103 wc => ∃ (kq : Nat) (x103_41 : Bool), v103 = .bool x103_41 ∧ Aside0 (letterlocklaw10_TreeWay.j6 kq t472 t476 x10_4 x11_25 x12_3 x13_25 x14_4 x103_41 = some r) ∧ Aside0 (kq ≤ kj25) ∧ Aside0 (Kd.R Kd.string 9 wc w.heap.size (fun k_ => some k_ ≠ ((.slice Ao22 t476.length co22) : Value).ownBlock) (.slice Ao14 t472.length co14) t472) ∧ Aside0 (Kd.R Kd.string 9 wc w.heap.size (fun k_ => some k_ ≠ ((.slice Ao14 t472.length co14) : Value).ownBlock) (.slice Ao22 t476.length co22) t476) ∧ Aside0 (Below w.heap.size w wc))
                                    case first => as_aux_lemma =>
                                      have H := HC42.out
                                      clear HC42
                                      by_cases c43 : x13_25 = true
                                      · subst c43
                                        have H1 : (letterlocklaw10_TreeWay.j6 kj25 t472 t476 x10_4 x11_25 x12_3 true x14_4 false) = some r := by rw [if_pos rfl] at H; exact H
                                        clear H
                                        have H := H1
                                        clear H1
                                        have H' := Aside0.mk H
                                        clear H
                                        go_wp2
                                        go_meet
                                        case rel => exact ⟨_, (false), (by first | rfl | (simp; done) | (simp [*]; done) | (simp; exact isEmpty_ne _)), H', ⟨by have := HJ4.out; have := HJ12.out; have := HK3.out; have := HK4.out; have := HJ22.out; have := HJ25.out; first | omega | exact Nat.le_refl _⟩, ⟨by (with_reducible repeat (first | apply Kd.R_alloc | apply Kd.R_drewN | apply Kd.R_drew)); exact HO_6.out⟩, ⟨by (with_reducible repeat (first | apply Kd.R_alloc | apply Kd.R_drewN | apply Kd.R_drew)); exact HO_8.out⟩, ⟨by repeat (first | (with_reducible first | exact HB.out | apply below_alloc | apply pw_below_drewN | apply below_drew1) | exact HB.out)⟩⟩
                                      · replace c43 := Bool.eq_false_iff.mpr c43
                                        subst c43
                                        have H1 : (letterlocklaw10_TreeWay.j6 kj25 t472 t476 x10_4 x11_25 x12_3 false x14_4 (decide (x10_4 ≥ x14_4))) = some r := by rw [if_neg (show ¬ (false = true) by decide)] at H; exact H
                                        clear H
                                        have H := H1
                                        clear H1
                                        have H' := Aside0.mk H
                                        clear H
                                        go_wp2
                                        go_meet
                                        case rel => exact ⟨_, (decide (x10_4 ≥ x14_4)), (by first | rfl | (simp; done) | (simp [*]; done) | (simp; exact isEmpty_ne _)), H', ⟨by have := HJ4.out; have := HJ12.out; have := HK3.out; have := HK4.out; have := HJ22.out; have := HJ25.out; first | omega | exact Nat.le_refl _⟩, ⟨by (with_reducible repeat (first | apply Kd.R_alloc | apply Kd.R_drewN | apply Kd.R_drew)); exact HO_6.out⟩, ⟨by (with_reducible repeat (first | apply Kd.R_alloc | apply Kd.R_drewN | apply Kd.R_drew)); exact HO_8.out⟩, ⟨by repeat (first | (with_reducible first | exact HB.out | apply below_alloc | apply pw_below_drewN | apply below_drew1) | exact HB.out)⟩⟩
                                    case rest => as_aux_lemma =>
                                      clear HC42
                                      try clear c1
                                      try clear c2
                                      try clear p2
                                      try clear c3
                                      try clear q3
                                      try clear c4
                                      try clear p4
                                      try clear q4
                                      try clear hx4
                                      try clear p6
                                      try clear c7
                                      try clear c8
                                      try clear c9
                                      try clear c10
                                      try clear c11
                                      try clear c13
                                      try clear c16
                                      try clear c16b0
                                      try clear c16b1
                                      try clear c18
                                      try clear c20
                                      try clear c21
                                      try clear c24
                                      try clear c24b0
                                      try clear c25
                                      try clear c27
                                      try clear c27b0
                                      try clear c28
                                      try clear c28b0
                                      try clear c28b1
                                      try clear c29
                                      try clear c29b0
                                      try clear c29b1
                                      try clear c30
                                      try clear c30b0
                                      try clear c32
                                      try clear c32b0
                                      try clear c32b1
                                      try clear c33
                                      try clear c33b0
                                      try clear c34
                                      try clear c34b0
                                      try clear c35
                                      try clear c35b0
                                      try clear c35b1
                                      try clear c36
                                      try clear q36
                                      try clear c38
                                      try clear q38
                                      try clear c40
                                      try clear q40
                                      try clear c43
                                      try clear hx487_0
                                      try clear p2
                                      try clear p4
                                      try clear p487
                                      try clear p6
                                      try clear q036
                                      try clear q038
                                      try clear q040
                                      try clear q3
                                      try clear q36
                                      try clear q38
                                      try clear q4
                                      try clear q40
                                      try clear q487
                                      obtain ⟨kq, x103_41, rfl, HA, HJ41, HO_6, HO_8, HB⟩ := hcut
                                      cases kq with
                                      | zero => exact absurd HA.out (by simp [letterlocklaw10_TreeWay.j6])
                                      | succ kj41 =>
                                        have H := HA.out
                                        clear HA
                                        simp only [letterlocklaw10_TreeWay.j6] at H
                                        by_cases c44 : x103_41 = true
                                        · subst c44
                                          have H1 : (if 0 ≤ (wrap64 (x10_4 - x14_4)) then (if (wrap64 (x10_4 - x14_4)) ≤ x10_4 then (if x10_4 ≤ (t472.length : Int) then ((tree_Root.f kj41 ((t472.take (x10_4 : Int).toNat).drop ((wrap64 (x10_4 - x14_4)) : Int).toNat)).bind fun bt492 => (if bt492.2 = 0 then (if 0 ≤ x12_3 then (if x12_3 < (t476.length : Int) then (if bt492.1.toList = (rdOf ByteArray.empty t476 x12_3).toList then (letterlocklaw10_TreeWay.l1 kj41 t472 t476 (wrap64 (x10_4 - x14_4)) x11_25 x12_3 true (wrap64 (x14_4 + 1))) else (letterlocklaw10_TreeWay.l1 kj41 t472 t476 x10_4 x11_25 x12_3 x13_25 (wrap64 (x14_4 + 1)))) else (none)) else (none)) else (letterlocklaw10_TreeWay.l1 kj41 t472 t476 x10_4 x11_25 x12_3 x13_25 (wrap64 (x14_4 + 1))))) else (none)) else (none)) else (none)) = some r := by rw [if_pos rfl] at H; exact H
                                          clear H
                                          have H := H1
                                          clear H1
                                          obtain ⟨ji45, hji45⟩ : ∃ j_ : Int, (wrap64 (x10_4 - x14_4)) = j_ := ⟨_, rfl⟩
                                          replace H : (if 0 ≤ (ji45) then (if (ji45) ≤ x10_4 then (if x10_4 ≤ (t472.length : Int) then ((tree_Root.f kj41 ((t472.take (x10_4 : Int).toNat).drop ((ji45) : Int).toNat)).bind fun bt492 => (if bt492.2 = 0 then (if 0 ≤ x12_3 then (if x12_3 < (t476.length : Int) then (if bt492.1.toList = (rdOf ByteArray.empty t476 x12_3).toList then (letterlocklaw10_TreeWay.l1 kj41 t472 t476 ji45 x11_25 x12_3 true (wrap64 (x14_4 + 1))) else (letterlocklaw10_TreeWay.l1 kj41 t472 t476 x10_4 x11_25 x12_3 x13_25 (wrap64 (x14_4 + 1)))) else (none)) else (none)) else (letterlocklaw10_TreeWay.l1 kj41 t472 t476 x10_4 x11_25 x12_3 x13_25 (wrap64 (x14_4 + 1))))) else (none)) else (none)) else (none)) = some r := by first | (rw [hji45] at H; exact H) | (simp only [hji45] at H ⊢; exact H)
                                          have hji45w : (IntKind.i64.wrap (x10_4 - x14_4)) = ji45 := (i64_w _).trans hji45
                                          by_cases c46 : 0 ≤ (ji45)
                                          · rw [if_pos c46] at H
                                            have c46b0 := eq_true c46
                                            have c46b1 : decide (0 ≤ (ji45)) = true := decide_eq_true c46
                                            clear c46
                                            by_cases c47 : (ji45) ≤ x10_4
                                            · rw [if_pos c47] at H
                                              have c47b0 := eq_true c47
                                              have c47b1 : decide ((ji45) ≤ x10_4) = true := decide_eq_true c47
                                              clear c47
                                              by_cases c48 : x10_4 ≤ (t472.length : Int)
                                              · rw [if_pos c48] at H
                                                have c48b0 := eq_true c48
                                                have c48b1 : decide (x10_4 ≤ (t472.length : Int)) = true := decide_eq_true c48
                                                clear c48
                                                obtain ⟨y488, hy488⟩ : ∃ y_ : List ByteArray, y_ = ((t472.take (x10_4 : Int).toNat).drop ((ji45) : Int).toNat) := ⟨_, rfl⟩
                                                replace H : ((tree_Root.f kj41 y488).bind fun bt492 => (if bt492.2 = 0 then (if 0 ≤ x12_3 then (if x12_3 < (t476.length : Int) then (if bt492.1.toList = (rdOf ByteArray.empty t476 x12_3).toList then (letterlocklaw10_TreeWay.l1 kj41 t472 t476 ji45 x11_25 x12_3 true (wrap64 (x14_4 + 1))) else (letterlocklaw10_TreeWay.l1 kj41 t472 t476 x10_4 x11_25 x12_3 x13_25 (wrap64 (x14_4 + 1)))) else (none)) else (none)) else (letterlocklaw10_TreeWay.l1 kj41 t472 t476 x10_4 x11_25 x12_3 x13_25 (wrap64 (x14_4 + 1))))) = some r := by first | (rw [hy488]; with_reducible exact H) | (have H2_ := (Option.bind_some _ _).symm.trans H; rw [hy488]; with_reducible exact H2_) | (have H2_ := (Option.bind_some _ _).symm.trans H; with_reducible exact H2_) | with_reducible exact H | (rw [hy488]; exact H) | exact H
                                                have Ny488 := Aside0.mk hy488
                                                clear hy488
                                                replace H := Option.bind_eq_some_iff.mp H
                                                obtain ⟨⟨t492, t493⟩, A490, H⟩ := H
                                                replace H : (if t493 = 0 then (if 0 ≤ x12_3 then (if x12_3 < (t476.length : Int) then (if t492.toList = (rdOf ByteArray.empty t476 x12_3).toList then (letterlocklaw10_TreeWay.l1 kj41 t472 t476 ji45 x11_25 x12_3 true (wrap64 (x14_4 + 1))) else (letterlocklaw10_TreeWay.l1 kj41 t472 t476 x10_4 x11_25 x12_3 x13_25 (wrap64 (x14_4 + 1)))) else (none)) else (none)) else (letterlocklaw10_TreeWay.l1 kj41 t472 t476 x10_4 x11_25 x12_3 x13_25 (wrap64 (x14_4 + 1)))) = some r := H
                                                have A49 := Aside0.mk A490
                                                clear A490
                                                by_cases c50 : t493 = 0
                                                · rw [if_pos c50] at H
                                                  have c50b0 : (t493 == 0) = true := beq_iff_eq.mpr c50
                                                  have c50b1 : (t493 != 0) = false := bne_eq_false_iff_eq.mpr c50
                                                  clear c50
                                                  by_cases c51 : 0 ≤ x12_3
                                                  · rw [if_pos c51] at H
                                                    have c51b0 : decide (0 ≤ x12_3) = true := decide_eq_true c51
                                                    clear c51
                                                    have c52 : x12_3 < (t476.length : Int) := (by first | exact of_decide_eq_true c21b0 | exact of_eq_true c21b0)
                                                    rw [if_pos c52] at H
                                                    clear c52
                                                    by_cases c53 : t492.toList = (rdOf ByteArray.empty t476 x12_3).toList
                                                    · rw [if_pos c53] at H
                                                      have c53b0 : (t492.toList == (rdOf ByteArray.empty t476 x12_3).toList) = true := beq_iff_eq.mpr c53
                                                      have c53b1 : (t492.toList != (rdOf ByteArray.empty t476 x12_3).toList) = false := bne_eq_false_iff_eq.mpr c53
                                                      clear c53
                                                      have H' := Aside0.mk H
                                                      clear H
                                                      have q54 : (x10_4 : Int) ≤ ((t472.length : Int) : Int) := of_decide_eq_true (by first | (with_reducible assumption) | assumption)
                                                      obtain ⟨i054, hi054, _, hsz54, _⟩ := info_parts info9
                                                      have hroom54 : t472.length ≤ co14 := (Kd.R_reads' HO_6.out).2.1
                                                      have hC54 : Kd.C Kd.string _ Ao14 t472.length t472 := (Kd.R_reads' HO_6.out).2.2
                                                      have ql54 : ((ji45) : Int) ≤ (x10_4 : Int) := of_decide_eq_true (by first | (with_reducible assumption) | assumption)
                                                      have q054 : (0 : Int) ≤ ((ji45) : Int) := of_decide_eq_true (by first | (with_reducible assumption) | assumption)
                                                      have hcut54 := cut_mid (P := Try.prog) 24 9 .i64 .i64 Try.underlying24 hi054 1 hsz54 Ao14 t472.length co14 (ji45) x10_4 q054 ql54 q54 hroom54
                                                      have hr54 := Kd.C_mid (lo := ((ji45) : Int).toNat) (hi := (x10_4 : Int).toNat) (c := co14) hC54 (by omega) (by omega) hroom54
                                                      obtain ⟨A54, hA54⟩ : ∃ A1, A1 = (if co14 = ((ji45) : Int).toNat then Ao14 else (Ao14 : Option Addr).map (·.add (((ji45) : Int).toNat * 1))) := ⟨_, rfl⟩
                                                      obtain ⟨c54, hc54⟩ : ∃ c1, c1 = co14 - ((ji45) : Int).toNat := ⟨_, rfl⟩
                                                      have hy54 : y488.length = (x10_4 : Int).toNat - ((ji45) : Int).toNat := (by rw [Ny488.out, List.length_drop, List.length_take] <;> omega)
                                                      rw [show ((t472).take (x10_4 : Int).toNat).drop ((ji45) : Int).toNat = y488 from Ny488.out.symm] at hr54
                                                      replace hr54 : Kd.C Kd.string _ A54 y488.length y488 := (by rw [hA54]; exact hr54)
                                                      rw [← hy54, ← hA54, ← hc54] at hcut54
                                                      have HR491 := Aside0.mk hr54
                                                      have HC491 := Aside0.mk (show y488.length ≤ c54 from by rw [hy54, hc54]; exact Nat.sub_le_sub_right (Nat.le_trans (by omega) hroom54) _)
                                                      clear hr54 hC54 hroom54 hi054 hsz54 hc54
                                                      have KY54 := Aside0.mk hy54
                                                      have KA54 := Aside0.mk hA54
                                                      clear hy54 hA54
                                                      have KL54 := Aside0.mk (show (x10_4 : Int).toNat ≤ t472.length from by omega)
                                                      have KM54 := Aside0.mk (show ((ji45) : Int).toNat ≤ (x10_4 : Int).toNat from by omega)
                                                      replace q54 := eq_true q54
                                                      go_wp2_with (first | ((with_reducible refine gate_callee (f := 11) rfl ?_); refine goesL_ (some 111) rfl rfl Try.func11 (by kernel_rfl) rfl #[.slice A54 y488.length c54] rfl (by (try simp only [List.map_toArray, List.map_cons, List.map_nil]); first | done | rfl | (simp only [List.length_drop, List.length_take]; rfl)) ?_; (with_reducible refine (tree_Root.calls kj41 _ _ y488 t492 t493 _ ?side1 ?side2 A49.out).mono ?_); (case side1 => repeat (first | exact (by repeat (first | (with_reducible exact HR491.out) | (with_reducible refine Kd.C_alloc ?_ _) | (with_reducible refine Kd.C_drewN ?_ _) | (with_reducible refine Kd.C_drew ?_) | exact HR491.out)) | (with_reducible refine Kd.C_alloc ?_ _) | (with_reducible refine Kd.C_drewN ?_ _) | (with_reducible refine Kd.C_drew ?_))); (case side2 => exact HC491.out); rintro e w55 ⟨rfl, hb⟩; refine ⟨_, rfl, ?_⟩; have n0_ := Aside0.mk (Kd.R_below (by (with_reducible repeat (first | apply Kd.R_alloc | apply Kd.R_drewN | apply Kd.R_drew)); exact HO_6.out) hb); have n1_ := Aside0.mk (Kd.R_below (by (with_reducible repeat (first | apply Kd.R_alloc | apply Kd.R_drewN | apply Kd.R_drew)); exact HO_8.out) hb); have n2_ := Aside0.mk (Kd.C_below (by repeat (first | (with_reducible exact HR491.out) | (with_reducible refine Kd.C_alloc ?_ _) | (with_reducible refine Kd.C_drewN ?_ _) | (with_reducible refine Kd.C_drew ?_) | exact HR491.out)) hb); have n3_ := Aside0.mk (below_step (by repeat (first | (with_reducible first | exact HB.out | apply below_alloc | apply pw_below_drewN | apply below_drew1) | exact HB.out)) hb); clear HO_6; clear HO_8; clear HR491; clear HB; have HO_6 := n0_; have HO_8 := n1_; have HR491 := n2_; have HB := n3_; clear n0_ n1_ n2_ n3_; (try clear hb); (try clear hb2); (try clear hk); (try clear hi); have p494 : 0 ≤ (x12_3 : Int) := of_decide_eq_true (by first | (with_reducible assumption) | assumption); have q494 : x12_3 < (t476.length : Int) := of_decide_eq_true (by first | (with_reducible assumption) | assumption); obtain ⟨ad494, e494, hx494_0⟩ := Kd.at_string (Kd.R_reads' HO_8.out).2.2 x12_3 p494 q494; cases e494; replace p494 := eq_true p494; replace q494 := eq_true q494))
                                                      go_roundg kj41
                                                      case measure => have := HJ4.out; have := HJ12.out; have := HK3.out; have := HK4.out; have := HJ22.out; have := HJ25.out; have := HJ41.out; omega
                                                      case rel => exact ⟨(ji45), (x11_25), (true), (wrap64 (x14_4 + 1)), (by first | rfl | (simp; done) | (simp only [← hji45] <;> (first | rfl | simp)) | (simp [*]; done)), (by first | rfl | (simp; done) | (simp [*]; done) | (simp; exact isEmpty_ne _)), (by first | rfl | (simp; done) | (simp [*]; done) | (simp; exact isEmpty_ne _)), (by first | rfl | (simp; done) | (simp [*]; done) | (simp; exact isEmpty_ne _)), H', ⟨by have := HJ4.out; have := HJ12.out; have := HK3.out; have := HK4.out; have := HJ22.out; have := HJ25.out; have := HJ41.out; omega⟩, ⟨by (with_reducible repeat (first | apply Kd.R_alloc | apply Kd.R_drewN | apply Kd.R_drew)); exact HO_6.out⟩, ⟨by (with_reducible repeat (first | apply Kd.R_alloc | apply Kd.R_drewN | apply Kd.R_drew)); exact HO_8.out⟩, ⟨by repeat (first | (with_reducible first | exact HB.out | apply below_alloc | apply pw_below_drewN | apply below_drew1) | exact HB.out)⟩⟩
                                                    · rw [if_neg c53] at H
                                                      have c53b0 : (t492.toList == (rdOf ByteArray.empty t476 x12_3).toList) = false := beq_eq_false_iff_ne.mpr c53
                                                      have c53b1 : (t492.toList != (rdOf ByteArray.empty t476 x12_3).toList) = true := bne_iff_ne.mpr c53
                                                      have H' := Aside0.mk H
                                                      clear H
                                                      have q56 : (x10_4 : Int) ≤ ((t472.length : Int) : Int) := of_decide_eq_true (by first | (with_reducible assumption) | assumption)
                                                      obtain ⟨i056, hi056, _, hsz56, _⟩ := info_parts info9
                                                      have hroom56 : t472.length ≤ co14 := (Kd.R_reads' HO_6.out).2.1
                                                      have hC56 : Kd.C Kd.string _ Ao14 t472.length t472 := (Kd.R_reads' HO_6.out).2.2
                                                      have ql56 : ((ji45) : Int) ≤ (x10_4 : Int) := of_decide_eq_true (by first | (with_reducible assumption) | assumption)
                                                      have q056 : (0 : Int) ≤ ((ji45) : Int) := of_decide_eq_true (by first | (with_reducible assumption) | assumption)
                                                      have hcut56 := cut_mid (P := Try.prog) 24 9 .i64 .i64 Try.underlying24 hi056 1 hsz56 Ao14 t472.length co14 (ji45) x10_4 q056 ql56 q56 hroom56
                                                      have hr56 := Kd.C_mid (lo := ((ji45) : Int).toNat) (hi := (x10_4 : Int).toNat) (c := co14) hC56 (by omega) (by omega) hroom56
                                                      obtain ⟨A56, hA56⟩ : ∃ A1, A1 = (if co14 = ((ji45) : Int).toNat then Ao14 else (Ao14 : Option Addr).map (·.add (((ji45) : Int).toNat * 1))) := ⟨_, rfl⟩
                                                      obtain ⟨c56, hc56⟩ : ∃ c1, c1 = co14 - ((ji45) : Int).toNat := ⟨_, rfl⟩
                                                      have hy56 : y488.length = (x10_4 : Int).toNat - ((ji45) : Int).toNat := (by rw [Ny488.out, List.length_drop, List.length_take] <;> omega)
                                                      rw [show ((t472).take (x10_4 : Int).toNat).drop ((ji45) : Int).toNat = y488 from Ny488.out.symm] at hr56
                                                      replace hr56 : Kd.C Kd.string _ A56 y488.length y488 := (by rw [hA56]; exact hr56)
                                                      rw [← hy56, ← hA56, ← hc56] at hcut56
                                                      have HR491 := Aside0.mk hr56
                                                      have HC491 := Aside0.mk (show y488.length ≤ c56 from by rw [hy56, hc56]; exact Nat.sub_le_sub_right (Nat.le_trans (by omega) hroom56) _)
                                                      clear hr56 hC56 hroom56 hi056 hsz56 hc56
                                                      have KY56 := Aside0.mk hy56
                                                      have KA56 := Aside0.mk hA56
                                                      clear hy56 hA56
                                                      have KL56 := Aside0.mk (show (x10_4 : Int).toNat ≤ t472.length from by omega)
                                                      have KM56 := Aside0.mk (show ((ji45) : Int).toNat ≤ (x10_4 : Int).toNat from by omega)
                                                      replace q56 := eq_true q56
                                                      go_wp2_with (first | ((with_reducible refine gate_callee (f := 11) rfl ?_); refine goesL_ (some 111) rfl rfl Try.func11 (by kernel_rfl) rfl #[.slice A56 y488.length c56] rfl (by (try simp only [List.map_toArray, List.map_cons, List.map_nil]); first | done | rfl | (simp only [List.length_drop, List.length_take]; rfl)) ?_; (with_reducible refine (tree_Root.calls kj41 _ _ y488 t492 t493 _ ?side1 ?side2 A49.out).mono ?_); (case side1 => repeat (first | exact (by repeat (first | (with_reducible exact HR491.out) | (with_reducible refine Kd.C_alloc ?_ _) | (with_reducible refine Kd.C_drewN ?_ _) | (with_reducible refine Kd.C_drew ?_) | exact HR491.out)) | (with_reducible refine Kd.C_alloc ?_ _) | (with_reducible refine Kd.C_drewN ?_ _) | (with_reducible refine Kd.C_drew ?_))); (case side2 => exact HC491.out); rintro e w57 ⟨rfl, hb⟩; refine ⟨_, rfl, ?_⟩; have n0_ := Aside0.mk (Kd.R_below (by (with_reducible repeat (first | apply Kd.R_alloc | apply Kd.R_drewN | apply Kd.R_drew)); exact HO_6.out) hb); have n1_ := Aside0.mk (Kd.R_below (by (with_reducible repeat (first | apply Kd.R_alloc | apply Kd.R_drewN | apply Kd.R_drew)); exact HO_8.out) hb); have n2_ := Aside0.mk (Kd.C_below (by repeat (first | (with_reducible exact HR491.out) | (with_reducible refine Kd.C_alloc ?_ _) | (with_reducible refine Kd.C_drewN ?_ _) | (with_reducible refine Kd.C_drew ?_) | exact HR491.out)) hb); have n3_ := Aside0.mk (below_step (by repeat (first | (with_reducible first | exact HB.out | apply below_alloc | apply pw_below_drewN | apply below_drew1) | exact HB.out)) hb); clear HO_6; clear HO_8; clear HR491; clear HB; have HO_6 := n0_; have HO_8 := n1_; have HR491 := n2_; have HB := n3_; clear n0_ n1_ n2_ n3_; (try clear hb); (try clear hb2); (try clear hk); (try clear hi); have p494 : 0 ≤ (x12_3 : Int) := of_decide_eq_true (by first | (with_reducible assumption) | assumption); have q494 : x12_3 < (t476.length : Int) := of_decide_eq_true (by first | (with_reducible assumption) | assumption); obtain ⟨ad494, e494, hx494_0⟩ := Kd.at_string (Kd.R_reads' HO_8.out).2.2 x12_3 p494 q494; cases e494; replace p494 := eq_true p494; replace q494 := eq_true q494))
                                                      go_roundg kj41
                                                      case measure => have := HJ4.out; have := HJ12.out; have := HK3.out; have := HK4.out; have := HJ22.out; have := HJ25.out; have := HJ41.out; omega
                                                      case rel => exact ⟨(x10_4), (x11_25), (x13_25), (wrap64 (x14_4 + 1)), (by first | rfl | (simp; done) | (simp [*]; done) | (simp; exact isEmpty_ne _)), (by first | rfl | (simp; done) | (simp [*]; done) | (simp; exact isEmpty_ne _)), (by first | rfl | (simp; done) | (simp [*]; done) | (simp; exact isEmpty_ne _)), (by first | rfl | (simp; done) | (simp [*]; done) | (simp; exact isEmpty_ne _)), H', ⟨by have := HJ4.out; have := HJ12.out; have := HK3.out; have := HK4.out; have := HJ22.out; have := HJ25.out; have := HJ41.out; omega⟩, ⟨by (with_reducible repeat (first | apply Kd.R_alloc | apply Kd.R_drewN | apply Kd.R_drew)); exact HO_6.out⟩, ⟨by (with_reducible repeat (first | apply Kd.R_alloc | apply Kd.R_drewN | apply Kd.R_drew)); exact HO_8.out⟩, ⟨by repeat (first | (with_reducible first | exact HB.out | apply below_alloc | apply pw_below_drewN | apply below_drew1) | exact HB.out)⟩⟩
                                                  · rw [if_neg c51] at H
                                                    exact absurd H (by simp)
                                                · rw [if_neg c50] at H
                                                  have c50b0 : (t493 == 0) = false := beq_eq_false_iff_ne.mpr c50
                                                  have c50b1 : (t493 != 0) = true := bne_iff_ne.mpr c50
                                                  have H' := Aside0.mk H
                                                  clear H
                                                  have q58 : (x10_4 : Int) ≤ ((t472.length : Int) : Int) := of_decide_eq_true (by first | (with_reducible assumption) | assumption)
                                                  obtain ⟨i058, hi058, _, hsz58, _⟩ := info_parts info9
                                                  have hroom58 : t472.length ≤ co14 := (Kd.R_reads' HO_6.out).2.1
                                                  have hC58 : Kd.C Kd.string _ Ao14 t472.length t472 := (Kd.R_reads' HO_6.out).2.2
                                                  have ql58 : ((ji45) : Int) ≤ (x10_4 : Int) := of_decide_eq_true (by first | (with_reducible assumption) | assumption)
                                                  have q058 : (0 : Int) ≤ ((ji45) : Int) := of_decide_eq_true (by first | (with_reducible assumption) | assumption)
                                                  have hcut58 := cut_mid (P := Try.prog) 24 9 .i64 .i64 Try.underlying24 hi058 1 hsz58 Ao14 t472.length co14 (ji45) x10_4 q058 ql58 q58 hroom58
                                                  have hr58 := Kd.C_mid (lo := ((ji45) : Int).toNat) (hi := (x10_4 : Int).toNat) (c := co14) hC58 (by omega) (by omega) hroom58
                                                  obtain ⟨A58, hA58⟩ : ∃ A1, A1 = (if co14 = ((ji45) : Int).toNat then Ao14 else (Ao14 : Option Addr).map (·.add (((ji45) : Int).toNat * 1))) := ⟨_, rfl⟩
                                                  obtain ⟨c58, hc58⟩ : ∃ c1, c1 = co14 - ((ji45) : Int).toNat := ⟨_, rfl⟩
                                                  have hy58 : y488.length = (x10_4 : Int).toNat - ((ji45) : Int).toNat := (by rw [Ny488.out, List.length_drop, List.length_take] <;> omega)
                                                  rw [show ((t472).take (x10_4 : Int).toNat).drop ((ji45) : Int).toNat = y488 from Ny488.out.symm] at hr58
                                                  replace hr58 : Kd.C Kd.string _ A58 y488.length y488 := (by rw [hA58]; exact hr58)
                                                  rw [← hy58, ← hA58, ← hc58] at hcut58
                                                  have HR491 := Aside0.mk hr58
                                                  have HC491 := Aside0.mk (show y488.length ≤ c58 from by rw [hy58, hc58]; exact Nat.sub_le_sub_right (Nat.le_trans (by omega) hroom58) _)
                                                  clear hr58 hC58 hroom58 hi058 hsz58 hc58
                                                  have KY58 := Aside0.mk hy58
                                                  have KA58 := Aside0.mk hA58
                                                  clear hy58 hA58
                                                  have KL58 := Aside0.mk (show (x10_4 : Int).toNat ≤ t472.length from by omega)
                                                  have KM58 := Aside0.mk (show ((ji45) : Int).toNat ≤ (x10_4 : Int).toNat from by omega)
                                                  replace q58 := eq_true q58
                                                  go_wp2_with (first | ((with_reducible refine gate_callee (f := 11) rfl ?_); refine goesL_ (some 111) rfl rfl Try.func11 (by kernel_rfl) rfl #[.slice A58 y488.length c58] rfl (by (try simp only [List.map_toArray, List.map_cons, List.map_nil]); first | done | rfl | (simp only [List.length_drop, List.length_take]; rfl)) ?_; (with_reducible refine (tree_Root.calls kj41 _ _ y488 t492 t493 _ ?side1 ?side2 A49.out).mono ?_); (case side1 => repeat (first | exact (by repeat (first | (with_reducible exact HR491.out) | (with_reducible refine Kd.C_alloc ?_ _) | (with_reducible refine Kd.C_drewN ?_ _) | (with_reducible refine Kd.C_drew ?_) | exact HR491.out)) | (with_reducible refine Kd.C_alloc ?_ _) | (with_reducible refine Kd.C_drewN ?_ _) | (with_reducible refine Kd.C_drew ?_))); (case side2 => exact HC491.out); rintro e w59 ⟨rfl, hb⟩; refine ⟨_, rfl, ?_⟩; have n0_ := Aside0.mk (Kd.R_below (by (with_reducible repeat (first | apply Kd.R_alloc | apply Kd.R_drewN | apply Kd.R_drew)); exact HO_6.out) hb); have n1_ := Aside0.mk (Kd.R_below (by (with_reducible repeat (first | apply Kd.R_alloc | apply Kd.R_drewN | apply Kd.R_drew)); exact HO_8.out) hb); have n2_ := Aside0.mk (Kd.C_below (by repeat (first | (with_reducible exact HR491.out) | (with_reducible refine Kd.C_alloc ?_ _) | (with_reducible refine Kd.C_drewN ?_ _) | (with_reducible refine Kd.C_drew ?_) | exact HR491.out)) hb); have n3_ := Aside0.mk (below_step (by repeat (first | (with_reducible first | exact HB.out | apply below_alloc | apply pw_below_drewN | apply below_drew1) | exact HB.out)) hb); clear HO_6; clear HO_8; clear HR491; clear HB; have HO_6 := n0_; have HO_8 := n1_; have HR491 := n2_; have HB := n3_; clear n0_ n1_ n2_ n3_; (try clear hb); (try clear hb2); (try clear hk); (try clear hi)))
                                                  go_roundg kj41
                                                  case measure => have := HJ4.out; have := HJ12.out; have := HK3.out; have := HK4.out; have := HJ22.out; have := HJ25.out; have := HJ41.out; omega
                                                  case rel => exact ⟨(x10_4), (x11_25), (x13_25), (wrap64 (x14_4 + 1)), (by first | rfl | (simp; done) | (simp [*]; done) | (simp; exact isEmpty_ne _)), (by first | rfl | (simp; done) | (simp [*]; done) | (simp; exact isEmpty_ne _)), (by first | rfl | (simp; done) | (simp [*]; done) | (simp; exact isEmpty_ne _)), (by first | rfl | (simp; done) | (simp [*]; done) | (simp; exact isEmpty_ne _)), H', ⟨by have := HJ4.out; have := HJ12.out; have := HK3.out; have := HK4.out; have := HJ22.out; have := HJ25.out; have := HJ41.out; omega⟩, ⟨by (with_reducible repeat (first | apply Kd.R_alloc | apply Kd.R_drewN | apply Kd.R_drew)); exact HO_6.out⟩, ⟨by (with_reducible repeat (first | apply Kd.R_alloc | apply Kd.R_drewN | apply Kd.R_drew)); exact HO_8.out⟩, ⟨by repeat (first | (with_reducible first | exact HB.out | apply below_alloc | apply pw_below_drewN | apply below_drew1) | exact HB.out)⟩⟩
                                              · rw [if_neg c48] at H
                                                exact absurd H (by simp)
                                            · rw [if_neg c47] at H
                                              exact absurd H (by simp)
                                          · rw [if_neg c46] at H
                                            exact absurd H (by simp)
                                        · replace c44 := Bool.eq_false_iff.mpr c44
                                          subst c44
                                          have H1 : (letterlocklaw10_TreeWay.l1 kj41 t472 t476 x10_4 x11_25 x12_3 x13_25 (wrap64 (x14_4 + 1))) = some r := by rw [if_neg (show ¬ (false = true) by decide)] at H; exact H
                                          clear H
                                          have H := H1
                                          clear H1
                                          have H' := Aside0.mk H
                                          clear H
                                          go_wp2
                                          go_roundg kj41
                                          case measure => have := HJ4.out; have := HJ12.out; have := HK3.out; have := HK4.out; have := HJ22.out; have := HJ25.out; have := HJ41.out; omega
                                          case rel => exact ⟨(x10_4), (x11_25), (x13_25), (wrap64 (x14_4 + 1)), (by first | rfl | (simp; done) | (simp [*]; done) | (simp; exact isEmpty_ne _)), (by first | rfl | (simp; done) | (simp [*]; done) | (simp; exact isEmpty_ne _)), (by first | rfl | (simp; done) | (simp [*]; done) | (simp; exact isEmpty_ne _)), (by first | rfl | (simp; done) | (simp [*]; done) | (simp; exact isEmpty_ne _)), H', ⟨by have := HJ4.out; have := HJ12.out; have := HK3.out; have := HK4.out; have := HJ22.out; have := HJ25.out; have := HJ41.out; omega⟩, ⟨by (with_reducible repeat (first | apply Kd.R_alloc | apply Kd.R_drewN | apply Kd.R_drew)); exact HO_6.out⟩, ⟨by (with_reducible repeat (first | apply Kd.R_alloc | apply Kd.R_drewN | apply Kd.R_drew)); exact HO_8.out⟩, ⟨by repeat (first | (with_reducible first | exact HB.out | apply below_alloc | apply pw_below_drewN | apply below_drew1) | exact HB.out)⟩⟩
                              · replace c25 := Bool.eq_false_iff.mpr c25
                                subst c25
                                have H1 : (if x13_4 = true then (letterlocklaw10_TreeWay.l0 kj22 t472 t476 x10_4 x11_4 (wrap64 (x12_3 + 1))) else (some false)) = some r := by rw [if_neg (show ¬ (false = true) by decide)] at H; exact H
                                clear H
                                have H := H1
                                clear H1
                                by_cases c60 : x13_4 = true
                                · subst c60
                                  have H1 : (letterlocklaw10_TreeWay.l0 kj22 t472 t476 x10_4 x11_4 (wrap64 (x12_3 + 1))) = some r := by rw [if_pos rfl] at H; exact H
                                  clear H
                                  have H := H1
                                  clear H1
                                  have H' := Aside0.mk H
                                  clear H
                                  go_wp2
                                  go_roundg kj22
                                  case measure => have := HJ4.out; have := HJ12.out; have := HK3.out; have := HK4.out; have := HJ22.out; omega
                                  case rel => exact ⟨(x10_4), (x11_4), (wrap64 (x12_3 + 1)), (by first | rfl | (simp; done) | (simp [*]; done) | (simp; exact isEmpty_ne _)), (by first | rfl | (simp; done) | (simp [*]; done) | (simp; exact isEmpty_ne _)), (by first | rfl | (simp; done) | (simp [*]; done) | (simp; exact isEmpty_ne _)), H', ⟨by have := HJ4.out; have := HJ12.out; have := HK3.out; have := HK4.out; have := HJ22.out; omega⟩, ⟨by (with_reducible repeat (first | apply Kd.R_alloc | apply Kd.R_drewN | apply Kd.R_drew)); exact HO_6.out⟩, ⟨by (with_reducible repeat (first | apply Kd.R_alloc | apply Kd.R_drewN | apply Kd.R_drew)); exact HO_8.out⟩, ⟨by repeat (first | (with_reducible first | exact HB.out | apply below_alloc | apply pw_below_drewN | apply below_drew1) | exact HB.out)⟩⟩
                                · replace c60 := Bool.eq_false_iff.mpr c60
                                  subst c60
                                  have H1 : (some false) = some r := by rw [if_neg (show ¬ (false = true) by decide)] at H; exact H
                                  clear H
                                  have H := H1
                                  clear H1
                                  obtain rfl := Option.some.inj H
                                  go_wp2
                                  go_ret
                                  exact ⟨by first | rfl | (simp [errW_none, errW_some] <;> rfl) | (simp [*, errW_none, errW_some] <;> rfl), by repeat (first | (with_reducible first | exact HB.out | apply below_alloc | apply pw_below_drewN | apply below_drew1) | exact HB.out)⟩
                    · rw [if_neg c21] at H
                      have c21b0 : decide (x12_3 < (t476.length : Int)) = false := decide_eq_false c21
                      clear c21
                      obtain rfl := Option.some.inj H
                      obtain ⟨Ao61, co61, eo61⟩ := Kd.R_slice HO_8.out
                      subst eo61
                      go_wp2
                      go_ret
                      exact ⟨by first | rfl | (simp [errW_none, errW_some] <;> rfl) | (simp [*, errW_none, errW_some] <;> rfl), by repeat (first | (with_reducible first | exact HB.out | apply below_alloc | apply pw_below_drewN | apply below_drew1) | exact HB.out)⟩

/-- THE ONE PURE STATEMENT of letterlocklaw10_TreeWay: yours. -/
def letterlocklaw10_TreeWay.Pure : Prop := ∀ (l0 : List Int) (a1 : Int), l0.length ≤ maxLen → l0.length * 8 ≤ 140737488351232 → (∀ x ∈ l0, (Lit.int .i64 x).wf = true) → (Lit.int .i64 a1).wf = true → ∃ k, letterlocklaw10_TreeWay.f k l0 a1 = some true
theorem letterlocklaw10_TreeWay.walk (P : letterlocklaw10_TreeWay.Pure) (a0 : Option Addr) (len0 cap0 : Nat) (z0 : List Int) (a1 : Int) (w : World) (w0 : (a0 = none ∧ len0 = 0 ∧ cap0 = 0 ∧ z0 = []) ∨ ∃ x, a0 = some x ∧ len0 ≤ cap0 ∧ cap0 ≤ maxLen ∧ z0.length = cap0 ∧ (∀ i, i < z0.length → w.cell? (x.add i) = some (.int .i64 (z0.getD i 0))) ∧ ∀ n ∈ z0, (Lit.int .i64 n).wf = true) (y0 : len0 * 8 ≤ 140737488351232) (w1 : (Lit.int .i64 a1).wf = true) :
    Calls Try.prog 7 #[.slice a0 len0 cap0, .int .i64 a1] w fun e w' => e = .returned (.bool true) ∧ Below w.heap.size w w' := by
  obtain ⟨l0, rfl, hr0, hm0, hw0, hc0⟩ := ReadsInt.ofRowC w0
  obtain ⟨k, h⟩ := P l0 a1 hm0 y0 hw0 w1
  refine (letterlocklaw10_TreeWay.calls k _ _ l0 a1 true w (Kd.C_of_reads (d := (0 : Int)) (h1 := fun _ => rfl) hr0) hc0 h).mono ?_
  rintro e w' ⟨rfl, hd⟩
  exact ⟨rfl, hd⟩

end Go.Proofs.Ytbbcklpenafefaa.P
