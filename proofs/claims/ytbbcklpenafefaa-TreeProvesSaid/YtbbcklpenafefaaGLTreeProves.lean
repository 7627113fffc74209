/- Printed for this claim by wip/myprint.py out of the translation: Lean functions with the answers of the Go functions, and proofs that the Go code comes to them. Lean checks it. -/
import Derived.Test.YtbbcklpenafefaaG0
import Derived.Test.YtbbcklpenafefaaGLaw10
import Derived.Test.YtbbcklpenafefaaGLaw10R
import Derived.Test.YtbbcklpenafefaaGTree
import Derived.Test.YtbbcklpenafefaaXTree
namespace Go.Proofs.Ytbbcklpenafefaa.P
open Go.RowKit Go.Proofs.YtbbcklpenafefaaW.PrintWords Go.Proofs.YtbbcklpenafefaaW.PrintLast Go.Proofs.YtbbcklpenafefaaW.PrintMore
attribute [local go_sem] max2_int min2_int max_two min_two max_three min_three max_four min_four   -- for this text's walks alone
set_option linter.unusedVariables false
set_option linter.unusedSimpArgs false

/-! ### letterlocklaw10_TreeProves: function 6 -/
mutual
def letterlocklaw10_TreeProves.j0 : Nat → Int → Int → List ByteArray → Int → Int → ByteArray → List ByteArray → Bool → Option (Bool)
  | 0, _, _, _, _, _, _, _, _ => none
  | k + 1, x2, x3, x10, x11, x12, x13, x15, x80 => if x80 = true then (none) else ((letterlocklaw10_pick.f x2 9).bind fun t239 => ((tree_Leaf.f k (⟨#[111, 116, 104, 101, 114]⟩ : ByteArray) (IntKind.u64.wrap (t239))).bind fun bt240 => ((letterlocklaw10_pick.f x2 x11).bind fun t242 => ((tree_Verify.f k x13 x11 x12 bt240.1 x15).bind fun t243 => (if t243 = true then (none) else (if 0 ≤ t242 then (if t242 < (x10.length : Int) then (if 0 ≤ x12 then (if x12 < (x10.length : Int) then (if (rdOf ByteArray.empty x10 t242).toList = (rdOf ByteArray.empty x10 x12).toList then ((tree_Verify.f k x13 x11 x11 (rdOf ByteArray.empty x10 x12) x15).bind fun t247 => (if t247 = true then (none) else ((tree_Verify.f k x13 x11 (-1) (rdOf ByteArray.empty x10 x12) x15).bind fun t249 => (if t249 = true then (none) else (if 1 + x13.size ≤ 9223372036854775807 then ((tree_Verify.f k ((⟨#[104]⟩ : ByteArray) ++ x13) x11 x12 (rdOf ByteArray.empty x10 x12) x15).bind fun t251 => (if t251 = true then (none) else (if 1 + (rdOf ByteArray.empty x10 x12).size ≤ 9223372036854775807 then ((tree_Verify.f k x13 x11 x12 ((⟨#[104]⟩ : ByteArray) ++ (rdOf ByteArray.empty x10 x12)) x15).bind fun t253 => (letterlocklaw10_TreeProves.j1 k x3 x10 x11 x13 x15 t253)) else (none)))) else (none)))))) else ((tree_Verify.f k x13 x11 x12 (rdOf ByteArray.empty x10 t242) x15).bind fun t255 => (if t255 = true then (none) else ((tree_Verify.f k x13 x11 x11 (rdOf ByteArray.empty x10 x12) x15).bind fun t257 => (if t257 = true then (none) else ((tree_Verify.f k x13 x11 (-1) (rdOf ByteArray.empty x10 x12) x15).bind fun t259 => (if t259 = true then (none) else (if 1 + x13.size ≤ 9223372036854775807 then ((tree_Verify.f k ((⟨#[104]⟩ : ByteArray) ++ x13) x11 x12 (rdOf ByteArray.empty x10 x12) x15).bind fun t261 => (if t261 = true then (none) else (if 1 + (rdOf ByteArray.empty x10 x12).size ≤ 9223372036854775807 then ((tree_Verify.f k x13 x11 x12 ((⟨#[104]⟩ : ByteArray) ++ (rdOf ByteArray.empty x10 x12)) x15).bind fun t263 => (letterlocklaw10_TreeProves.j1 k x3 x10 x11 x13 x15 t263)) else (none)))) else (none))))))))) else (none)) else (none)) else (none)) else (none)))))))
def letterlocklaw10_TreeProves.j1 : Nat → Int → List ByteArray → Int → ByteArray → List ByteArray → Bool → Option (Bool)
  | 0, _, _, _, _, _, _ => none
  | k + 1, x3, x10, x11, x13, x15, x163 => if x163 = true then (none) else (if x11 = 1 then (if 0 < (x10.length : Int) then ((tree_Verify.f k x13 2 0 (rdOf ByteArray.empty x10 0) (([x13] : List ByteArray))).bind fun t268 => (if t268 = true then (none) else ((tree_Verify.f k x13 1 0 (rdOf ByteArray.empty x10 0) (([x13] : List ByteArray))).bind fun t273 => (some (!t273))))) else (none)) else ((letterlocklaw10_pick.f x3 (x15.length : Int)).bind fun t274 => ((some (([] : List ByteArray) : List ByteArray)).bind fun y275 => (if y275.length + x15.length < 8796093022208 then ((some (y275 ++ x15 : List ByteArray)).bind fun y278 => (if 0 ≤ t274 then (if t274 < (y278.length : Int) then (if 1 + (rdOf ByteArray.empty y278 t274).size ≤ 9223372036854775807 then (some true) else (none)) else (none)) else (none))) else (none)))))
end
def letterlocklaw10_TreeProves.f (k : Nat) (l0 : List Int) (a1 : Int) (a2 : Int) (a3 : Int) : Option (Bool) := (letterlocklaw10_shown.f k).bind fun t226 => ((letterlocklaw10_row.f k l0).bind fun t227 => (if t226 = true then (if (t227.length : Int) = 0 then (some t226) else ((letterlocklaw10_pick.f a1 (t227.length : Int)).bind fun t230 => ((tree_Root.f k t227).bind fun bt231 => ((tree_Proof.f k t227 t230).bind fun bt233 => (if bt231.2 = 0 then (if bt233.2 = 0 then (if 0 ≤ t230 then (if t230 < (t227.length : Int) then ((tree_Verify.f k bt231.1 (t227.length : Int) t230 (rdOf ByteArray.empty t227 t230) bt233.1).bind fun t238 => (if t238 = true then (if (bt233.1.length : Int) > 3 then (none) else (if (t227.length : Int) > 1 then (letterlocklaw10_TreeProves.j0 k a2 a3 t227 (t227.length : Int) t230 bt231.1 bt233.1 ((bt233.1.length : Int) == 0)) else (letterlocklaw10_TreeProves.j0 k a2 a3 t227 (t227.length : Int) t230 bt231.1 bt233.1 false))) else (none))) else (none)) else (none)) else (none)) else (none)))))) else (none)))
theorem letterlocklaw10_TreeProves.mono_l : ∀ k, (∀ y0 y1 y2 y3 y4 y5 y6 y7, LeO (letterlocklaw10_TreeProves.j0 k y0 y1 y2 y3 y4 y5 y6 y7) (letterlocklaw10_TreeProves.j0 (k + 1) y0 y1 y2 y3 y4 y5 y6 y7)) ∧ (∀ y0 y1 y2 y3 y4 y5, LeO (letterlocklaw10_TreeProves.j1 k y0 y1 y2 y3 y4 y5) (letterlocklaw10_TreeProves.j1 (k + 1) y0 y1 y2 y3 y4 y5))
  | 0 => ⟨fun _ _ _ _ _ _ _ _ r h => by simp [letterlocklaw10_TreeProves.j0] at h, fun _ _ _ _ _ _ r h => by simp [letterlocklaw10_TreeProves.j1] at h⟩
  | k + 1 => by
    obtain ⟨ih0, ih1⟩ := letterlocklaw10_TreeProves.mono_l k
    refine ⟨?_, ?_⟩
    · intro y0 y1 y2 y3 y4 y5 y6 y7
      unfold letterlocklaw10_TreeProves.j0
      repeat' first
      | (with_reducible exact ih0 _ _ _ _ _ _ _ _)
      | (with_reducible exact ih1 _ _ _ _ _ _)
      | (with_reducible exact letterlocklaw10_row.mono _ _)
      | (with_reducible exact letterlocklaw10_shown.mono _)
      | (with_reducible exact tree_Leaf.mono _ _ _)
      | (with_reducible exact tree_Proof.mono _ _ _)
      | (with_reducible exact tree_Root.mono _ _)
      | (with_reducible exact tree_Verify.mono _ _ _ _ _ _)
      | (with_reducible exact LeO.refl _)
      | (with_reducible exact LeO.none _)
      | (with_reducible refine LeO.ite ?_ ?_)
      | (with_reducible refine LeO.bind ?_ (fun _ => ?_))
      | exact ih0 _ _ _ _ _ _ _ _
      | exact ih1 _ _ _ _ _ _
      | exact letterlocklaw10_row.mono _ _
      | exact letterlocklaw10_shown.mono _
      | exact tree_Leaf.mono _ _ _
      | exact tree_Proof.mono _ _ _
      | exact tree_Root.mono _ _
      | exact tree_Verify.mono _ _ _ _ _ _
      | exact LeO.none _
      | refine LeO.ite ?_ ?_
      | refine LeO.bind ?_ (fun _ => ?_)
    · intro y0 y1 y2 y3 y4 y5
      unfold letterlocklaw10_TreeProves.j1
      repeat' first
      | (with_reducible exact ih0 _ _ _ _ _ _ _ _)
      | (with_reducible exact ih1 _ _ _ _ _ _)
      | (with_reducible exact letterlocklaw10_row.mono _ _)
      | (with_reducible exact letterlocklaw10_shown.mono _)
      | (with_reducible exact tree_Leaf.mono _ _ _)
      | (with_reducible exact tree_Proof.mono _ _ _)
      | (with_reducible exact tree_Root.mono _ _)
      | (with_reducible exact tree_Verify.mono _ _ _ _ _ _)
      | (with_reducible exact LeO.refl _)
      | (with_reducible exact LeO.none _)
      | (with_reducible refine LeO.ite ?_ ?_)
      | (with_reducible refine LeO.bind ?_ (fun _ => ?_))
      | exact ih0 _ _ _ _ _ _ _ _
      | exact ih1 _ _ _ _ _ _
      | exact letterlocklaw10_row.mono _ _
      | exact letterlocklaw10_shown.mono _
      | exact tree_Leaf.mono _ _ _
      | exact tree_Proof.mono _ _ _
      | exact tree_Root.mono _ _
      | exact tree_Verify.mono _ _ _ _ _ _
      | exact LeO.none _
      | refine LeO.ite ?_ ?_
      | refine LeO.bind ?_ (fun _ => ?_)
theorem letterlocklaw10_TreeProves.mono : ∀ a0 a1 a2 a3 k, LeO (letterlocklaw10_TreeProves.f k a0 a1 a2 a3) (letterlocklaw10_TreeProves.f (k + 1) a0 a1 a2 a3) := by
  intro a0 a1 a2 a3 k
  obtain ⟨ih0, ih1⟩ := letterlocklaw10_TreeProves.mono_l k
  unfold letterlocklaw10_TreeProves.f
  repeat' first
      | (with_reducible exact ih0 _ _ _ _ _ _ _ _)
      | (with_reducible exact ih1 _ _ _ _ _ _)
      | (with_reducible exact letterlocklaw10_row.mono _ _)
      | (with_reducible exact letterlocklaw10_shown.mono _)
      | (with_reducible exact tree_Leaf.mono _ _ _)
      | (with_reducible exact tree_Proof.mono _ _ _)
      | (with_reducible exact tree_Root.mono _ _)
      | (with_reducible exact tree_Verify.mono _ _ _ _ _ _)
      | (with_reducible exact LeO.refl _)
      | (with_reducible exact LeO.none _)
      | (with_reducible refine LeO.ite ?_ ?_)
      | (with_reducible refine LeO.bind ?_ (fun _ => ?_))
      | exact ih0 _ _ _ _ _ _ _ _
      | exact ih1 _ _ _ _ _ _
      | exact letterlocklaw10_row.mono _ _
      | exact letterlocklaw10_shown.mono _
      | exact tree_Leaf.mono _ _ _
      | exact tree_Proof.mono _ _ _
      | exact tree_Root.mono _ _
      | exact tree_Verify.mono _ _ _ _ _ _
      | exact LeO.none _
      | refine LeO.ite ?_ ?_
      | refine LeO.bind ?_ (fun _ => ?_)
def letterlocklaw10_TreeProves.T13 : Bool × List (List Nat × List Nat) := (true, [([], []), ([], []), ([], []), ([], []), ([], []), ([0, 1, 2, 3, 4], [0, 1, 2, 3, 4]), ([5, 5], [5]), ([6], [6]), ([6], [6]), ([7, 8, 6], [6, 7, 8]), ([9, 6], [6, 9]), ([6], [6]), ([6], [6]), ([11, 12, 6], [6, 11, 12]), ([13, 6], [6, 13]), ([10, 14, 6], [6, 10, 14]), ([15, 6, 6], [6, 15]), ([16], [16]), ([16], [16]), ([16], [16]), ([16], [16]), ([16], [16]), ([20, 21, 16], [16, 20, 21]), ([22, 16], [16, 22]), ([16], [16]), ([17, 18, 19, 23, 24, 16, 16], [16, 17, 18, 19, 23, 24]), ([16, 25, 6], [6, 16, 25]), ([6, 26], [6, 26]), ([27, 25], [27]), ([28], [28]), ([28], [28]), ([28], [28]), ([28], [28]), ([28], [28]), ([32, 33, 28], [28, 32, 33]), ([34, 28], [28, 34]), ([28], [28]), ([29, 30, 31, 35, 36, 28, 28], [28, 29, 30, 31, 35, 36]), ([28, 37], [28, 37]), ([38, 37], [38]), ([39], [39]), ([39], [39]), ([39], [39]), ([39], [39]), ([42, 43, 39], [39, 42, 43]), ([44, 39], [39, 44]), ([39], [39]), ([40, 41, 45, 46, 39, 39], [39, 40, 41, 45, 46]), ([39, 47], [39, 47]), ([48, 47], [48]), ([49], [49]), ([50, 49], [49, 50]), ([49], [49]), ([49], [49]), ([49], [49]), ([49], [49]), ([54, 55, 49], [49, 54, 55]), ([56, 49], [49, 56]), ([49], [49]), ([51, 52, 53, 57, 58, 49, 49], [49, 51, 52, 53, 57, 58]), ([49, 59], [49, 59]), ([60, 59], [60]), ([61], [61]), ([61], [61]), ([61], [61]), ([61], [61]), ([61], [61]), ([65, 66, 61], [61, 65, 66]), ([67, 61], [61, 67]), ([68, 61], [61, 68]), ([61], [61]), ([62, 63, 64, 69, 70, 61, 61], [61, 62, 63, 64, 69, 70]), ([61, 71], [61, 71])])
def letterlocklaw10_TreeProves.B13 : List Nat := [0, 0, 0, 0, 0, 31, 63, 127, 127, 511, 1023, 127, 127, 6271, 14463, 32767, 65535, 131071, 131071, 131071, 131071, 131071, 3276799, 7471103, 131071, 33554431, 67108863, 134217727, 268435455, 536870911, 536870911, 536870911, 536870911, 536870911, 13421772799, 30601641983, 536870911, 137438953471, 274877906943, 549755813887, 1099511627775, 1099511627775, 1099511627775, 1099511627775, 14293651161087, 31885837205503, 1099511627775, 140737488355327, 281474976710655, 562949953421311, 1125899906842623, 2251799813685247, 1125899906842623, 1125899906842623, 1125899906842623, 1125899906842623, 55169095435288575, 127226689473216511, 1125899906842623, 576460752303423487, 1152921504606846975, 2305843009213693951, 4611686018427387903, 4611686018427387903, 4611686018427387903, 4611686018427387903, 4611686018427387903, 115292150460684697599, 262866103050361110527, 558014008229713936383, 4611686018427387903, 2361183241434822606847, 4722366482869645213695]
theorem letterlocklaw10_TreeProves.tab13 : rtab .any (opsOf Try.f6 13) = letterlocklaw10_TreeProves.T13 := by kernel_rfl
theorem letterlocklaw10_TreeProves.bits13 : waitsOk letterlocklaw10_TreeProves.T13.2 letterlocklaw10_TreeProves.B13 = true := by kernel_rfl
def letterlocklaw10_TreeProves.T20 : Bool × List (List Nat × List Nat) := (true, [([], []), ([], []), ([], []), ([], []), ([], []), ([3, 4], [3, 4]), ([5], [5]), ([], []), ([0, 1, 2, 6, 7], [0, 1, 2, 6, 7]), ([8], [8]), ([9, 8], [9]), ([10], [10]), ([10], [10]), ([10], [10]), ([10], [10]), ([10], [10]), ([14, 15, 10], [10, 14, 15]), ([16, 10], [10, 16]), ([10], [10]), ([18, 10], [10, 18]), ([11, 12, 13, 17, 19, 10, 10], [10, 11, 12, 13, 17, 19]), ([20, 10], [10, 20]), ([10, 21], [10, 21]), ([22, 20], [22]), ([23], [23]), ([23], [23]), ([23], [23]), ([23], [23]), ([23], [23]), ([27, 28, 23], [23, 27, 28]), ([29, 23], [23, 29]), ([23], [23]), ([23], [23]), ([31, 32, 23, 23], [23, 31, 32]), ([23], [23]), ([34, 23], [23, 34]), ([33, 35, 33, 23], [23, 33, 35]), ([24, 25, 26, 30, 36, 36, 23], [23, 24, 25, 26, 30, 36]), ([37, 23], [23, 37]), ([23, 38], [23, 38]), ([39, 37, 0, 1, 2, 3, 4, 5, 6, 7, 8, 9, 10, 11, 12, 13, 14, 15, 16, 17, 18, 19, 20, 21, 22, 23, 24, 25, 26, 27, 28, 29, 30, 31, 32, 33, 34, 35, 36, 37, 38, 39], [39])])
def letterlocklaw10_TreeProves.B20 : List Nat := [0, 0, 0, 0, 0, 24, 56, 0, 255, 511, 1023, 2047, 2047, 2047, 2047, 2047, 51199, 116735, 2047, 264191, 1048575, 2097151, 4194303, 8388607, 16777215, 16777215, 16777215, 16777215, 16777215, 419430399, 956301311, 16777215, 16777215, 6459228159, 16777215, 17196646399, 66588770303, 137438953471, 274877906943, 549755813887, 1099511627775]
theorem letterlocklaw10_TreeProves.tab20 : rtab .any (opsOf Try.f6 20) = letterlocklaw10_TreeProves.T20 := by kernel_rfl
theorem letterlocklaw10_TreeProves.bits20 : waitsOk letterlocklaw10_TreeProves.T20.2 letterlocklaw10_TreeProves.B20 = true := by kernel_rfl
end Go.Proofs.Ytbbcklpenafefaa.P
