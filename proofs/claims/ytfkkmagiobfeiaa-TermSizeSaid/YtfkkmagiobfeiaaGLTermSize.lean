/- Printed for this claim by wip/myprint.py out of the translation: Lean functions with the answers of the Go functions, and proofs that the Go code comes to them. Lean checks it. -/
import Derived.Test.YtfkkmagiobfeiaaG0
import Derived.Test.YtfkkmagiobfeiaaGLaw3
import Derived.Test.YtfkkmagiobfeiaaGRef3
import Derived.Test.YtfkkmagiobfeiaaGTerm
namespace Go.Proofs.Ytfkkmagiobfeiaa.P
open Go.RowKit Go.Proofs.YtfkkmagiobfeiaaW.PrintWords Go.Proofs.YtfkkmagiobfeiaaW.PrintLast Go.Proofs.YtfkkmagiobfeiaaW.PrintMore
attribute [local go_sem] max2_int min2_int max_two min_two max_three min_three max_four min_four   -- for this text's walks alone
set_option linter.unusedVariables false
set_option linter.unusedSimpArgs false

/-! ### letterlocklaw3_TermSize: function 7 -/
mutual
def letterlocklaw3_TermSize.l0 : Nat → List Int → List Int → Int → ByteArray → Int → Int → Option (Bool)
  | 0, _, _, _, _, _, _ => none
  | k + 1, x0, x1, x3, x10, x11, x12 => if x12 < x11 then (if x10.size + 1 ≤ 9223372036854775807 then (letterlocklaw3_TermSize.l0 k x0 x1 x3 (x10 ++ (⟨#[120]⟩ : ByteArray)) x11 (wrap64 (x12 + 1))) else (none)) else (if x11 > 255 then (letterlocklaw3_TermSize.j1 k x0 x1 x3 x10 x11 2) else (if x11 > 0 then (letterlocklaw3_TermSize.j1 k x0 x1 x3 x10 x11 1) else (letterlocklaw3_TermSize.j1 k x0 x1 x3 x10 x11 0)))
def letterlocklaw3_TermSize.j1 : Nat → List Int → List Int → Int → ByteArray → Int → Int → Option (Bool)
  | 0, _, _, _, _, _, _ => none
  | k + 1, x0, x1, x3, x10, x11, x13 => (term_OfText.f k x10).bind fun bt412 => (if (wrap64 ((wrap64 (x11 + x13)) + 2)) > 4000 then (if bt412.2 = 10 then (some (bt412.1.toList == ([] : List UInt8))) else (some false)) else (if bt412.2 = 0 then (letterlocklaw3_TermSize.j2 k x0 x1 x3 bt412.1 ((bt412.1.size : Int) != (wrap64 ((wrap64 (x11 + x13)) + 2)))) else (letterlocklaw3_TermSize.j2 k x0 x1 x3 bt412.1 true)))
def letterlocklaw3_TermSize.j2 : Nat → List Int → List Int → Int → ByteArray → Bool → Option (Bool)
  | 0, _, _, _, _, _ => none
  | k + 1, x0, x1, x3, x14, x69 => if x69 = true then (some false) else ((letterlocklaw3_grown.f k x0).bind fun t414 => ((letterlocklaw3_grown.f k x1).bind fun t415 => ((term_OfPair.f t414 x14).bind fun bt416 => (if 1 + t414.size ≤ 9223372036854775807 then (if ((⟨#[112]⟩ : ByteArray) ++ t414).size + x14.size ≤ 9223372036854775807 then ((letterlockref3_Right.f k (((⟨#[112]⟩ : ByteArray) ++ t414) ++ x14)).bind fun t418 => (if ((bt416.2 == 0) != t418) = true then (letterlocklaw3_TermSize.j3 k x3 t414 t415 true) else (if bt416.2 = 0 then (if bt416.1.toList = (((⟨#[112]⟩ : ByteArray) ++ t414) ++ x14).toList then (letterlocklaw3_TermSize.j3 k x3 t414 t415 false) else (letterlocklaw3_TermSize.j3 k x3 t414 t415 true)) else (if bt416.2 = 10 then (letterlocklaw3_TermSize.j3 k x3 t414 t415 (bt416.1.toList != ([] : List UInt8))) else (letterlocklaw3_TermSize.j3 k x3 t414 t415 true))))) else (none)) else (none)))))
def letterlocklaw3_TermSize.j3 : Nat → Int → ByteArray → ByteArray → Bool → Option (Bool)
  | 0, _, _, _, _ => none
  | k + 1, x3, x16, x17, x111 => if x111 = true then (some false) else ((term_OfAtom.f k 7).bind fun t419 => (letterlocklaw3_TermSize.l1 k x3 x16 x17 t419 1))
def letterlocklaw3_TermSize.l1 : Nat → Int → ByteArray → ByteArray → ByteArray → Int → Option (Bool)
  | 0, _, _, _, _, _ => none
  | k + 1, x3, x16, x17, x20, x21 => (letterlocklaw3_pick.f x3 45).bind fun t420 => (if x21 ≤ t420 then ((term_OfHash.f x20).bind fun bt424 => (if ((bt424.2 == 0) != (decide (x21 < 40))) = true then (letterlocklaw3_TermSize.j5 k x3 x16 x17 x20 x21 bt424.1 bt424.2 true) else (if bt424.2 = 0 then (if 1 + x20.size ≤ 9223372036854775807 then (if bt424.1.toList = ((⟨#[104]⟩ : ByteArray) ++ x20).toList then (letterlocklaw3_TermSize.j5 k x3 x16 x17 x20 x21 bt424.1 bt424.2 false) else (letterlocklaw3_TermSize.j5 k x3 x16 x17 x20 x21 bt424.1 bt424.2 true)) else (none)) else (if bt424.2 = 10 then (letterlocklaw3_TermSize.j5 k x3 x16 x17 x20 x21 bt424.1 bt424.2 (bt424.1.toList != ([] : List UInt8))) else (letterlocklaw3_TermSize.j5 k x3 x16 x17 x20 x21 bt424.1 bt424.2 true))))) else ((term_Sign.f x16 x17).bind fun bt421 => (if 1 + x16.size ≤ 9223372036854775807 then (if ((⟨#[103]⟩ : ByteArray) ++ x16).size + x17.size ≤ 9223372036854775807 then ((letterlockref3_Right.f k (((⟨#[103]⟩ : ByteArray) ++ x16) ++ x17)).bind fun t423 => (if t423 = true then (if bt421.2 = 0 then (if bt421.1.toList = (((⟨#[103]⟩ : ByteArray) ++ x16) ++ x17).toList then (some true) else (some false)) else (some false)) else (if bt421.2 = 10 then (some (bt421.1.toList == ([] : List UInt8))) else (some false)))) else (none)) else (none))))
def letterlocklaw3_TermSize.j5 : Nat → Int → ByteArray → ByteArray → ByteArray → Int → ByteArray → Int → Bool → Option (Bool)
  | 0, _, _, _, _, _, _, _, _ => none
  | k + 1, x3, x16, x17, x20, x21, x22, x23, x150 => if x150 = true then (some false) else (if x23 = 0 then (letterlocklaw3_TermSize.l1 k x3 x16 x17 x22 (wrap64 (x21 + 1))) else (letterlocklaw3_TermSize.l1 k x3 x16 x17 x20 (wrap64 (x21 + 1))))
end
def letterlocklaw3_TermSize.f (k : Nat) (l0 : List Int) (l1 : List Int) (a2 : Int) (a3 : Int) : Option (Bool) := (letterlocklaw3_shown.f k).bind fun t410 => (if t410 = true then ((letterlocklaw3_pick.f a2 4100).bind fun t411 => (letterlocklaw3_TermSize.l0 k l0 l1 a3 (⟨#[]⟩ : ByteArray) t411 0)) else (some false))
theorem letterlocklaw3_TermSize.mono_l : ∀ k, (∀ y0 y1 y2 y3 y4 y5, LeO (letterlocklaw3_TermSize.l0 k y0 y1 y2 y3 y4 y5) (letterlocklaw3_TermSize.l0 (k + 1) y0 y1 y2 y3 y4 y5)) ∧ (∀ y0 y1 y2 y3 y4 y5, LeO (letterlocklaw3_TermSize.j1 k y0 y1 y2 y3 y4 y5) (letterlocklaw3_TermSize.j1 (k + 1) y0 y1 y2 y3 y4 y5)) ∧ (∀ y0 y1 y2 y3 y4, LeO (letterlocklaw3_TermSize.j2 k y0 y1 y2 y3 y4) (letterlocklaw3_TermSize.j2 (k + 1) y0 y1 y2 y3 y4)) ∧ (∀ y0 y1 y2 y3, LeO (letterlocklaw3_TermSize.j3 k y0 y1 y2 y3) (letterlocklaw3_TermSize.j3 (k + 1) y0 y1 y2 y3)) ∧ (∀ y0 y1 y2 y3 y4, LeO (letterlocklaw3_TermSize.l1 k y0 y1 y2 y3 y4) (letterlocklaw3_TermSize.l1 (k + 1) y0 y1 y2 y3 y4)) ∧ (∀ y0 y1 y2 y3 y4 y5 y6 y7, LeO (letterlocklaw3_TermSize.j5 k y0 y1 y2 y3 y4 y5 y6 y7) (letterlocklaw3_TermSize.j5 (k + 1) y0 y1 y2 y3 y4 y5 y6 y7))
  | 0 => ⟨fun _ _ _ _ _ _ r h => by simp [letterlocklaw3_TermSize.l0] at h, fun _ _ _ _ _ _ r h => by simp [letterlocklaw3_TermSize.j1] at h, fun _ _ _ _ _ r h => by simp [letterlocklaw3_TermSize.j2] at h, fun _ _ _ _ r h => by simp [letterlocklaw3_TermSize.j3] at h, fun _ _ _ _ _ r h => by simp [letterlocklaw3_TermSize.l1] at h, fun _ _ _ _ _ _ _ _ r h => by simp [letterlocklaw3_TermSize.j5] at h⟩
  | k + 1 => by
    obtain ⟨ih0, ih1, ih2, ih3, ih4, ih5⟩ := letterlocklaw3_TermSize.mono_l k
    refine ⟨?_, ?_, ?_, ?_, ?_, ?_⟩
    · intro y0 y1 y2 y3 y4 y5
      unfold letterlocklaw3_TermSize.l0
      repeat' first
      | (with_reducible exact ih0 _ _ _ _ _ _)
      | (with_reducible exact ih1 _ _ _ _ _ _)
      | (with_reducible exact ih2 _ _ _ _ _)
      | (with_reducible exact ih3 _ _ _ _)
      | (with_reducible exact ih4 _ _ _ _ _)
      | (with_reducible exact ih5 _ _ _ _ _ _ _ _)
      | (with_reducible exact letterlocklaw3_grown.mono _ _)
      | (with_reducible exact letterlocklaw3_shown.mono _)
      | (with_reducible exact letterlockref3_Right.mono _ _)
      | (with_reducible exact term_OfAtom.mono _ _)
      | (with_reducible exact term_OfText.mono _ _)
      | (with_reducible exact LeO.refl _)
      | (with_reducible exact LeO.none _)
      | (with_reducible refine LeO.ite ?_ ?_)
      | (with_reducible refine LeO.bind ?_ (fun _ => ?_))
      | exact ih0 _ _ _ _ _ _
      | exact ih1 _ _ _ _ _ _
      | exact ih2 _ _ _ _ _
      | exact ih3 _ _ _ _
      | exact ih4 _ _ _ _ _
      | exact ih5 _ _ _ _ _ _ _ _
      | exact letterlocklaw3_grown.mono _ _
      | exact letterlocklaw3_shown.mono _
      | exact letterlockref3_Right.mono _ _
      | exact term_OfAtom.mono _ _
      | exact term_OfText.mono _ _
      | exact LeO.none _
      | refine LeO.ite ?_ ?_
      | refine LeO.bind ?_ (fun _ => ?_)
    · intro y0 y1 y2 y3 y4 y5
      unfold letterlocklaw3_TermSize.j1
      repeat' first
      | (with_reducible exact ih0 _ _ _ _ _ _)
      | (with_reducible exact ih1 _ _ _ _ _ _)
      | (with_reducible exact ih2 _ _ _ _ _)
      | (with_reducible exact ih3 _ _ _ _)
      | (with_reducible exact ih4 _ _ _ _ _)
      | (with_reducible exact ih5 _ _ _ _ _ _ _ _)
      | (with_reducible exact letterlocklaw3_grown.mono _ _)
      | (with_reducible exact letterlocklaw3_shown.mono _)
      | (with_reducible exact letterlockref3_Right.mono _ _)
      | (with_reducible exact term_OfAtom.mono _ _)
      | (with_reducible exact term_OfText.mono _ _)
      | (with_reducible exact LeO.refl _)
      | (with_reducible exact LeO.none _)
      | (with_reducible refine LeO.ite ?_ ?_)
      | (with_reducible refine LeO.bind ?_ (fun _ => ?_))
      | exact ih0 _ _ _ _ _ _
      | exact ih1 _ _ _ _ _ _
      | exact ih2 _ _ _ _ _
      | exact ih3 _ _ _ _
      | exact ih4 _ _ _ _ _
      | exact ih5 _ _ _ _ _ _ _ _
      | exact letterlocklaw3_grown.mono _ _
      | exact letterlocklaw3_shown.mono _
      | exact letterlockref3_Right.mono _ _
      | exact term_OfAtom.mono _ _
      | exact term_OfText.mono _ _
      | exact LeO.none _
      | refine LeO.ite ?_ ?_
      | refine LeO.bind ?_ (fun _ => ?_)
    · intro y0 y1 y2 y3 y4
      unfold letterlocklaw3_TermSize.j2
      repeat' first
      | (with_reducible exact ih0 _ _ _ _ _ _)
      | (with_reducible exact ih1 _ _ _ _ _ _)
      | (with_reducible exact ih2 _ _ _ _ _)
      | (with_reducible exact ih3 _ _ _ _)
      | (with_reducible exact ih4 _ _ _ _ _)
      | (with_reducible exact ih5 _ _ _ _ _ _ _ _)
      | (with_reducible exact letterlocklaw3_grown.mono _ _)
      | (with_reducible exact letterlocklaw3_shown.mono _)
      | (with_reducible exact letterlockref3_Right.mono _ _)
      | (with_reducible exact term_OfAtom.mono _ _)
      | (with_reducible exact term_OfText.mono _ _)
      | (with_reducible exact LeO.refl _)
      | (with_reducible exact LeO.none _)
      | (with_reducible refine LeO.ite ?_ ?_)
      | (with_reducible refine LeO.bind ?_ (fun _ => ?_))
      | exact ih0 _ _ _ _ _ _
      | exact ih1 _ _ _ _ _ _
      | exact ih2 _ _ _ _ _
      | exact ih3 _ _ _ _
      | exact ih4 _ _ _ _ _
      | exact ih5 _ _ _ _ _ _ _ _
      | exact letterlocklaw3_grown.mono _ _
      | exact letterlocklaw3_shown.mono _
      | exact letterlockref3_Right.mono _ _
      | exact term_OfAtom.mono _ _
      | exact term_OfText.mono _ _
      | exact LeO.none _
      | refine LeO.ite ?_ ?_
      | refine LeO.bind ?_ (fun _ => ?_)
    · intro y0 y1 y2 y3
      unfold letterlocklaw3_TermSize.j3
      repeat' first
      | (with_reducible exact ih0 _ _ _ _ _ _)
      | (with_reducible exact ih1 _ _ _ _ _ _)
      | (with_reducible exact ih2 _ _ _ _ _)
      | (with_reducible exact ih3 _ _ _ _)
      | (with_reducible exact ih4 _ _ _ _ _)
      | (with_reducible exact ih5 _ _ _ _ _ _ _ _)
      | (with_reducible exact letterlocklaw3_grown.mono _ _)
      | (with_reducible exact letterlocklaw3_shown.mono _)
      | (with_reducible exact letterlockref3_Right.mono _ _)
      | (with_reducible exact term_OfAtom.mono _ _)
      | (with_reducible exact term_OfText.mono _ _)
      | (with_reducible exact LeO.refl _)
      | (with_reducible exact LeO.none _)
      | (with_reducible refine LeO.ite ?_ ?_)
      | (with_reducible refine LeO.bind ?_ (fun _ => ?_))
      | exact ih0 _ _ _ _ _ _
      | exact ih1 _ _ _ _ _ _
      | exact ih2 _ _ _ _ _
      | exact ih3 _ _ _ _
      | exact ih4 _ _ _ _ _
      | exact ih5 _ _ _ _ _ _ _ _
      | exact letterlocklaw3_grown.mono _ _
      | exact letterlocklaw3_shown.mono _
      | exact letterlockref3_Right.mono _ _
      | exact term_OfAtom.mono _ _
      | exact term_OfText.mono _ _
      | exact LeO.none _
      | refine LeO.ite ?_ ?_
      | refine LeO.bind ?_ (fun _ => ?_)
    · intro y0 y1 y2 y3 y4
      unfold letterlocklaw3_TermSize.l1
      repeat' first
      | (with_reducible exact ih0 _ _ _ _ _ _)
      | (with_reducible exact ih1 _ _ _ _ _ _)
      | (with_reducible exact ih2 _ _ _ _ _)
      | (with_reducible exact ih3 _ _ _ _)
      | (with_reducible exact ih4 _ _ _ _ _)
      | (with_reducible exact ih5 _ _ _ _ _ _ _ _)
      | (with_reducible exact letterlocklaw3_grown.mono _ _)
      | (with_reducible exact letterlocklaw3_shown.mono _)
      | (with_reducible exact letterlockref3_Right.mono _ _)
      | (with_reducible exact term_OfAtom.mono _ _)
      | (with_reducible exact term_OfText.mono _ _)
      | (with_reducible exact LeO.refl _)
      | (with_reducible exact LeO.none _)
      | (with_reducible refine LeO.ite ?_ ?_)
      | (with_reducible refine LeO.bind ?_ (fun _ => ?_))
      | exact ih0 _ _ _ _ _ _
      | exact ih1 _ _ _ _ _ _
      | exact ih2 _ _ _ _ _
      | exact ih3 _ _ _ _
      | exact ih4 _ _ _ _ _
      | exact ih5 _ _ _ _ _ _ _ _
      | exact letterlocklaw3_grown.mono _ _
      | exact letterlocklaw3_shown.mono _
      | exact letterlockref3_Right.mono _ _
      | exact term_OfAtom.mono _ _
      | exact term_OfText.mono _ _
      | exact LeO.none _
      | refine LeO.ite ?_ ?_
      | refine LeO.bind ?_ (fun _ => ?_)
    · intro y0 y1 y2 y3 y4 y5 y6 y7
      unfold letterlocklaw3_TermSize.j5
      repeat' first
      | (with_reducible exact ih0 _ _ _ _ _ _)
      | (with_reducible exact ih1 _ _ _ _ _ _)
      | (with_reducible exact ih2 _ _ _ _ _)
      | (with_reducible exact ih3 _ _ _ _)
      | (with_reducible exact ih4 _ _ _ _ _)
      | (with_reducible exact ih5 _ _ _ _ _ _ _ _)
      | (with_reducible exact letterlocklaw3_grown.mono _ _)
      | (with_reducible exact letterlocklaw3_shown.mono _)
      | (with_reducible exact letterlockref3_Right.mono _ _)
      | (with_reducible exact term_OfAtom.mono _ _)
      | (with_reducible exact term_OfText.mono _ _)
      | (with_reducible exact LeO.refl _)
      | (with_reducible exact LeO.none _)
      | (with_reducible refine LeO.ite ?_ ?_)
      | (with_reducible refine LeO.bind ?_ (fun _ => ?_))
      | exact ih0 _ _ _ _ _ _
      | exact ih1 _ _ _ _ _ _
      | exact ih2 _ _ _ _ _
      | exact ih3 _ _ _ _
      | exact ih4 _ _ _ _ _
      | exact ih5 _ _ _ _ _ _ _ _
      | exact letterlocklaw3_grown.mono _ _
      | exact letterlocklaw3_shown.mono _
      | exact letterlockref3_Right.mono _ _
      | exact term_OfAtom.mono _ _
      | exact term_OfText.mono _ _
      | exact LeO.none _
      | refine LeO.ite ?_ ?_
      | refine LeO.bind ?_ (fun _ => ?_)
theorem letterlocklaw3_TermSize.mono : ∀ a0 a1 a2 a3 k, LeO (letterlocklaw3_TermSize.f k a0 a1 a2 a3) (letterlocklaw3_TermSize.f (k + 1) a0 a1 a2 a3) := by
  intro a0 a1 a2 a3 k
  obtain ⟨ih0, ih1, ih2, ih3, ih4, ih5⟩ := letterlocklaw3_TermSize.mono_l k
  unfold letterlocklaw3_TermSize.f
  repeat' first
      | (with_reducible exact ih0 _ _ _ _ _ _)
      | (with_reducible exact ih1 _ _ _ _ _ _)
      | (with_reducible exact ih2 _ _ _ _ _)
      | (with_reducible exact ih3 _ _ _ _)
      | (with_reducible exact ih4 _ _ _ _ _)
      | (with_reducible exact ih5 _ _ _ _ _ _ _ _)
      | (with_reducible exact letterlocklaw3_grown.mono _ _)
      | (with_reducible exact letterlocklaw3_shown.mono _)
      | (with_reducible exact letterlockref3_Right.mono _ _)
      | (with_reducible exact term_OfAtom.mono _ _)
      | (with_reducible exact term_OfText.mono _ _)
      | (with_reducible exact LeO.refl _)
      | (with_reducible exact LeO.none _)
      | (with_reducible refine LeO.ite ?_ ?_)
      | (with_reducible refine LeO.bind ?_ (fun _ => ?_))
      | exact ih0 _ _ _ _ _ _
      | exact ih1 _ _ _ _ _ _
      | exact ih2 _ _ _ _ _
      | exact ih3 _ _ _ _
      | exact ih4 _ _ _ _ _
      | exact ih5 _ _ _ _ _ _ _ _
      | exact letterlocklaw3_grown.mono _ _
      | exact letterlocklaw3_shown.mono _
      | exact letterlockref3_Right.mono _ _
      | exact term_OfAtom.mono _ _
      | exact term_OfText.mono _ _
      | exact LeO.none _
      | refine LeO.ite ?_ ?_
      | refine LeO.bind ?_ (fun _ => ?_)
set_option maxHeartbeats 8000000 in
set_option maxRecDepth 100000 in
theorem letterlocklaw3_TermSize.calls (k : Nat) (A0 : Option Addr) (c0 : Nat) (l0 : List Int) (A1 : Option Addr) (c1 : Nat) (l1 : List Int) (a2 : Int) (a3 : Int) (r : Bool) (w : World) (hr0 : Kd.C (Kd.int .i64) w A0 l0.length l0) (hc0 : l0.length ≤ c0) (hr1 : Kd.C (Kd.int .i64) w A1 l1.length l1) (hc1 : l1.length ≤ c1) (h : letterlocklaw3_TermSize.f k l0 l1 a2 a3 = some r) :
    Calls Try.prog 7 #[.slice A0 l0.length c0, .slice A1 l1.length c1, .int .i64 a2, .int .i64 a3] w fun e w' => e = .returned (.bool r) ∧ Below w.heap.size w w' := by
  have HR0 := Aside0.mk hr0
  have HC0 := Aside0.mk hc0
  clear hr0 hc0
  have HR1 := Aside0.mk hr1
  have HC1 := Aside0.mk hc1
  clear hr1 hc1
  have HB := Aside0.mk (Below.refl w.heap.size w)
  have H : ((letterlocklaw3_shown.f k).bind fun t410 => (if t410 = true then ((letterlocklaw3_pick.f a2 4100).bind fun t411 => (letterlocklaw3_TermSize.l0 k l0 l1 a3 (⟨#[]⟩ : ByteArray) t411 0)) else (some false))) = some r := h
  clear h
  replace H := Option.bind_eq_some_iff.mp H
  obtain ⟨t410, A50, H⟩ := H
  replace H : (if t410 = true then ((letterlocklaw3_pick.f a2 4100).bind fun t411 => (letterlocklaw3_TermSize.l0 k l0 l1 a3 (⟨#[]⟩ : ByteArray) t411 0)) else (some false)) = some r := H
  have A5 := Aside0.mk A50
  clear A50
  by_cases c6 : t410 = true
  · subst c6
    have H1 : ((letterlocklaw3_pick.f a2 4100).bind fun t411 => (letterlocklaw3_TermSize.l0 k l0 l1 a3 (⟨#[]⟩ : ByteArray) t411 0)) = some r := by rw [if_pos rfl] at H; exact H
    clear H
    have H := H1
    clear H1
    replace H := Option.bind_eq_some_iff.mp H
    obtain ⟨t411, A70, H⟩ := H
    replace H : (letterlocklaw3_TermSize.l0 k l0 l1 a3 (⟨#[]⟩ : ByteArray) t411 0) = some r := H
    have A7 := Aside0.mk A70
    clear A70
    have H' := Aside0.mk H
    clear H
    go_enter Try.func7, Try.ntmps7
    go_wp2_with (first | ((with_reducible refine gate_callee (f := 10) rfl ?_); refine goesL_ (some 27) rfl rfl Try.func10 (by kernel_rfl) rfl #[] rfl (by (try simp only [List.map_toArray, List.map_cons, List.map_nil]); first | done | rfl | (simp only [List.length_drop, List.length_take]; rfl)) ?_; (with_reducible refine (letterlocklaw3_shown.calls k  true _ A5.out).mono ?_); rintro e w8 ⟨rfl, hb⟩; refine ⟨_, rfl, ?_⟩; have n0_ := Aside0.mk (below_step (by repeat (first | (with_reducible first | exact HB.out | apply below_alloc | apply pw_below_drewN | apply below_drew1) | exact HB.out)) hb); clear HB; have HB := n0_; clear n0_; (try clear hb); (try clear hb2); (try clear hk); (try clear hi)) | ((with_reducible refine gate_callee (f := 26) rfl ?_); refine goesL_ (some 31) rfl rfl Try.func26 (by kernel_rfl) rfl #[.int .i64 a2, .int .i64 4100] rfl (by (try simp only [List.map_toArray, List.map_cons, List.map_nil]); first | done | rfl | (simp only [List.length_drop, List.length_take]; rfl)) ?_; (with_reducible refine (letterlocklaw3_pick.calls a2 4100 t411 _ A7.out).mono ?_); rintro e w' ⟨rfl, ⟨nd, rfl⟩⟩; refine ⟨_, rfl, ?_⟩))
    go_loopg [10, 12] k (fun kq v10 v12 w' => ∃ (x10_1 : ByteArray) (x12_1 : Int), v10 = .string x10_1 ∧ v12 = .int .i64 x12_1 ∧ Aside0 (letterlocklaw3_TermSize.l0 kq l0 l1 a3 x10_1 t411 x12_1 = some r) ∧ Aside0 (kq ≤ k) ∧ Aside0 (Below w.heap.size w w'))
    case atStart => exact ⟨((⟨#[]⟩ : ByteArray)), (0), (by first | rfl | (simp; done) | (simp [*]; done) | (simp; exact isEmpty_ne _)), (by first | rfl | (simp; done) | (simp [*]; done) | (simp; exact isEmpty_ne _)), H', ⟨Nat.le_refl _⟩, ⟨by repeat (first | (with_reducible first | exact HB.out | apply below_alloc | apply pw_below_drewN | apply below_drew1) | exact HB.out)⟩⟩
    case round => as_aux_lemma =>
      clear H'
      try clear c1
      try clear c2
      try clear p2
      try clear c6
      try clear c7
      obtain ⟨x10_1, x12_1, rfl, rfl, HA, HK1, HB⟩ := hrel
      cases gk with
      | zero => exact absurd HA.out (by simp [letterlocklaw3_TermSize.l0])
      | succ k1 =>
        have H := HA.out
        clear HA
        simp only [letterlocklaw3_TermSize.l0] at H
        by_cases c9 : x12_1 < t411
        · rw [if_pos c9] at H
          have c9b0 : decide (x12_1 < t411) = true := decide_eq_true c9
          clear c9
          by_cases c10 : x10_1.size + 1 ≤ 9223372036854775807
          · rw [if_pos c10] at H
            have c10b0 := eq_true c10
            have c10b1 : decide (x10_1.size + 1 ≤ 9223372036854775807) = true := decide_eq_true c10
            try have c10b2 : (9223372036854775807 < x10_1.size + 1) = False := eq_false (Nat.not_lt.2 c10)
            have H' := Aside0.mk H
            clear H
            go_wp2
            go_roundg k1
            case measure => have := HK1.out; omega
            case rel => exact ⟨(x10_1 ++ (⟨#[120]⟩ : ByteArray)), (wrap64 (x12_1 + 1)), (by first | rfl | (simp; done) | (simp [*]; done) | (simp; exact isEmpty_ne _)), (by first | rfl | (simp; done) | (simp [*]; done) | (simp; exact isEmpty_ne _)), H', ⟨by have := HK1.out; omega⟩, ⟨by repeat (first | (with_reducible first | exact HB.out | apply below_alloc | apply pw_below_drewN | apply below_drew1) | exact HB.out)⟩⟩
          · rw [if_neg c10] at H
            exact absurd H (by simp)
        · rw [if_neg c9] at H
          have c9b0 : decide (x12_1 < t411) = false := decide_eq_false c9
          clear c9
          have HC11 := Aside0.mk H
          clear H
          go_upto_if 40 with (fail)
          go_cut [13] (fun v13 wc => ∃ (kq : Nat) (x13_10 : Int), v13 = .int .i64 x13_10 ∧ Aside0 (letterlocklaw3_TermSize.j1 kq l0 l1 a3 x10_1 t411 x13_10 = some r) ∧ Aside0 (kq ≤ k1) ∧ Aside0 (Below w.heap.size w wc))
          case first => as_aux_lemma =>
            have H := HC11.out
            clear HC11
            by_cases c12 : t411 > 255
            · rw [if_pos c12] at H
              have c12b0 : decide (255 < t411) = true := decide_eq_true c12
              clear c12
              (first | rw [c12b0] | (simp only [i64_w, i32_w]; rw [c12b0]) | skip)
              have H' := Aside0.mk H
              clear H
              go_wp2
              go_meet
              case rel => exact ⟨_, (2), (by first | rfl | (simp; done) | (simp [*]; done) | (simp; exact isEmpty_ne _)), H', ⟨by have := HK1.out; first | omega | exact Nat.le_refl _⟩, ⟨by repeat (first | (with_reducible first | exact HB.out | apply below_alloc | apply pw_below_drewN | apply below_drew1) | exact HB.out)⟩⟩
            · rw [if_neg c12] at H
              have c12b0 : decide (255 < t411) = false := decide_eq_false c12
              clear c12
              (first | rw [c12b0] | (simp only [i64_w, i32_w]; rw [c12b0]) | skip)
              by_cases c13 : t411 > 0
              · rw [if_pos c13] at H
                have c13b0 : decide (0 < t411) = true := decide_eq_true c13
                clear c13
                have H' := Aside0.mk H
                clear H
                go_wp2
                go_meet
                case rel => exact ⟨_, (1), (by first | rfl | (simp; done) | (simp [*]; done) | (simp; exact isEmpty_ne _)), H', ⟨by have := HK1.out; first | omega | exact Nat.le_refl _⟩, ⟨by repeat (first | (with_reducible first | exact HB.out | apply below_alloc | apply pw_below_drewN | apply below_drew1) | exact HB.out)⟩⟩
              · rw [if_neg c13] at H
                have c13b0 : decide (0 < t411) = false := decide_eq_false c13
                clear c13
                have H' := Aside0.mk H
                clear H
                go_wp2
                go_meet
                case rel => exact ⟨_, (0), (by first | rfl | (simp; done) | (simp [*]; done) | (simp; exact isEmpty_ne _)), H', ⟨by have := HK1.out; first | omega | exact Nat.le_refl _⟩, ⟨by repeat (first | (with_reducible first | exact HB.out | apply below_alloc | apply pw_below_drewN | apply below_drew1) | exact HB.out)⟩⟩
          case rest => as_aux_lemma =>
            clear HC11
            try clear c1
            try clear c2
            try clear p2
            try clear c6
            try clear p6
            try clear c7
            try clear c9
            try clear c9b0
            try clear c10
            try clear c10b0
            try clear c10b1
            try clear c10b2
            try clear c12
            try clear c12b0
            try clear c13
            try clear c13b0
            try clear p2
            obtain ⟨kq, x13_10, rfl, HA, HJ10, HB⟩ := hcut
            cases kq with
            | zero => exact absurd HA.out (by simp [letterlocklaw3_TermSize.j1])
            | succ kj10 =>
              have H := HA.out
              clear HA
              simp only [letterlocklaw3_TermSize.j1] at H
              replace H := Option.bind_eq_some_iff.mp H
              obtain ⟨⟨t412, t413⟩, A140, H⟩ := H
              replace H : (if (wrap64 ((wrap64 (t411 + x13_10)) + 2)) > 4000 then (if t413 = 10 then (some (t412.toList == ([] : List UInt8))) else (some false)) else (if t413 = 0 then (letterlocklaw3_TermSize.j2 kj10 l0 l1 a3 t412 ((t412.size : Int) != (wrap64 ((wrap64 (t411 + x13_10)) + 2)))) else (letterlocklaw3_TermSize.j2 kj10 l0 l1 a3 t412 true))) = some r := H
              have A14 := Aside0.mk A140
              clear A140
              by_cases c15 : (wrap64 ((wrap64 (t411 + x13_10)) + 2)) > 4000
              · rw [if_pos c15] at H
                have c15b0 : decide (4000 < (wrap64 ((wrap64 (t411 + x13_10)) + 2))) = true := decide_eq_true c15
                clear c15
                by_cases c16 : t413 = 10
                · rw [if_pos c16] at H
                  have c16b0 : (t413 == 10) = true := beq_iff_eq.mpr c16
                  have c16b1 : (t413 != 10) = false := bne_eq_false_iff_eq.mpr c16
                  clear c16
                  obtain rfl := Option.some.inj H
                  go_wp2_with (first | ((with_reducible refine gate_callee (f := 27) rfl ?_); refine goesL_ (some 45) rfl rfl Try.func27 (by kernel_rfl) rfl #[.string x10_1] rfl (by (try simp only [List.map_toArray, List.map_cons, List.map_nil]); first | done | rfl | (simp only [List.length_drop, List.length_take]; rfl)) ?_; (with_reducible refine (term_OfText.calls kj10 x10_1 t412 t413 _ A14.out).mono ?_); rintro e w17 ⟨rfl, hb⟩; refine ⟨_, rfl, ?_⟩; have n0_ := Aside0.mk (below_step (by repeat (first | (with_reducible first | exact HB.out | apply below_alloc | apply pw_below_drewN | apply below_drew1) | exact HB.out)) hb); clear HB; have HB := n0_; clear n0_; (try clear hb); (try clear hb2); (try clear hk); (try clear hi)))
                  go_ret
                  exact ⟨by first | rfl | (simp [errW_none, errW_some] <;> rfl) | (simp [*, errW_none, errW_some] <;> rfl), by repeat (first | (with_reducible first | exact HB.out | apply below_alloc | apply pw_below_drewN | apply below_drew1) | exact HB.out)⟩
                · rw [if_neg c16] at H
                  have c16b0 : (t413 == 10) = false := beq_eq_false_iff_ne.mpr c16
                  have c16b1 : (t413 != 10) = true := bne_iff_ne.mpr c16
                  obtain rfl := Option.some.inj H
                  go_wp2_with (first | ((with_reducible refine gate_callee (f := 27) rfl ?_); refine goesL_ (some 45) rfl rfl Try.func27 (by kernel_rfl) rfl #[.string x10_1] rfl (by (try simp only [List.map_toArray, List.map_cons, List.map_nil]); first | done | rfl | (simp only [List.length_drop, List.length_take]; rfl)) ?_; (with_reducible refine (term_OfText.calls kj10 x10_1 t412 t413 _ A14.out).mono ?_); rintro e w18 ⟨rfl, hb⟩; refine ⟨_, rfl, ?_⟩; have n0_ := Aside0.mk (below_step (by repeat (first | (with_reducible first | exact HB.out | apply below_alloc | apply pw_below_drewN | apply below_drew1) | exact HB.out)) hb); clear HB; have HB := n0_; clear n0_; (try clear hb); (try clear hb2); (try clear hk); (try clear hi)))
                  go_ret
                  exact ⟨by first | rfl | (simp [errW_none, errW_some] <;> rfl) | (simp [*, errW_none, errW_some] <;> rfl), by repeat (first | (with_reducible first | exact HB.out | apply below_alloc | apply pw_below_drewN | apply below_drew1) | exact HB.out)⟩
              · rw [if_neg c15] at H
                have c15b0 : decide (4000 < (wrap64 ((wrap64 (t411 + x13_10)) + 2))) = false := decide_eq_false c15
                clear c15
                have HC19 := Aside0.mk H
                clear H
                go_upto_region 18 with (first | ((with_reducible refine gate_callee (f := 27) rfl ?_); refine goesL_ (some 45) rfl rfl Try.func27 (by kernel_rfl) rfl #[.string x10_1] rfl (by (try simp only [List.map_toArray, List.map_cons, List.map_nil]); first | done | rfl | (simp only [List.length_drop, List.length_take]; rfl)) ?_; (with_reducible refine (term_OfText.calls kj10 x10_1 t412 t413 _ A14.out).mono ?_); rintro e w20 ⟨rfl, hb⟩; refine ⟨_, rfl, ?_⟩; have n0_ := Aside0.mk (below_step (by repeat (first | (with_reducible first | exact HB.out | apply below_alloc | apply pw_below_drewN | apply below_drew1) | exact HB.out)) hb); clear HB; have HB := n0_; clear n0_; (try clear hb); (try clear hb2); (try clear hk); (try clear hi)))
                (try simp only [Act.put, List.setIfInBounds_toArray, List.set_cons_zero, List.set_cons_succ])
                go_cut [69] (fun v69 wc => ∃ (kq : Nat) (x69_18 : Bool), v69 = .bool x69_18 ∧ Aside0 (letterlocklaw3_TermSize.j2 kq l0 l1 a3 t412 x69_18 = some r) ∧ Aside0 (kq ≤ kj10) ∧ Aside0 (Below w.heap.size w wc))
                case first => as_aux_lemma =>
                  have H := HC19.out
                  clear HC19
                  by_cases c21 : t413 = 0
                  · rw [if_pos c21] at H
                    have c21b0 : (t413 == 0) = true := beq_iff_eq.mpr c21
                    have c21b1 : (t413 != 0) = false := bne_eq_false_iff_eq.mpr c21
                    clear c21
                    (first | rw [c21b0] | (simp only [i64_w, i32_w]; rw [c21b0]) | skip)
                    have H' := Aside0.mk H
                    clear H
                    go_wp2
                    go_meet
                    case rel => exact ⟨_, (((t412.size : Int) != (wrap64 ((wrap64 (t411 + x13_10)) + 2)))), (by first | rfl | (simp; done) | (simp [*]; done) | (simp; exact isEmpty_ne _)), H', ⟨by have := HK1.out; have := HJ10.out; first | omega | exact Nat.le_refl _⟩, ⟨by repeat (first | (with_reducible first | exact HB.out | apply below_alloc | apply pw_below_drewN | apply below_drew1) | exact HB.out)⟩⟩
                  · rw [if_neg c21] at H
                    have c21b0 : (t413 == 0) = false := beq_eq_false_iff_ne.mpr c21
                    have c21b1 : (t413 != 0) = true := bne_iff_ne.mpr c21
                    (first | rw [c21b0] | (simp only [i64_w, i32_w]; rw [c21b0]) | skip)
                    have H' := Aside0.mk H
                    clear H
                    go_wp2
                    go_meet
                    case rel => exact ⟨_, (true), (by first | rfl | (simp; done) | (simp [*]; done) | (simp; exact isEmpty_ne _)), H', ⟨by have := HK1.out; have := HJ10.out; first | omega | exact Nat.le_refl _⟩, ⟨by repeat (first | (with_reducible first | exact HB.out | apply below_alloc | apply pw_below_drewN | apply below_drew1) | exact HB.out)⟩⟩
                case rest => as_aux_lemma =>
                  clear HC19
                  try clear c1
                  try clear c2
                  try clear p2
                  try clear c6
                  try clear p6
                  try clear c7
                  try clear c9
                  try clear c9b0
                  try clear c10
                  try clear c10b0
                  try clear c10b1
                  try clear c10b2
                  try clear c12
                  try clear c12b0
                  try clear c13
                  try clear c13b0
                  try clear c15
                  try clear c15b0
                  try clear c16
                  try clear c16b0
                  try clear c16b1
                  try clear c21
                  try clear c21b0
                  try clear c21b1
                  try clear p2
                  try clear p6
                  obtain ⟨kq, x69_18, rfl, HA, HJ18, HB⟩ := hcut
                  cases kq with
                  | zero => exact absurd HA.out (by simp [letterlocklaw3_TermSize.j2])
                  | succ kj18 =>
                    have H := HA.out
                    clear HA
                    simp only [letterlocklaw3_TermSize.j2] at H
                    by_cases c22 : x69_18 = true
                    · subst c22
                      have H1 : (some false) = some r := by rw [if_pos rfl] at H; exact H
                      clear H
                      have H := H1
                      clear H1
                      obtain rfl := Option.some.inj H
                      go_wp2
                      go_ret
                      exact ⟨by first | rfl | (simp [errW_none, errW_some] <;> rfl) | (simp [*, errW_none, errW_some] <;> rfl), by repeat (first | (with_reducible first | exact HB.out | apply below_alloc | apply pw_below_drewN | apply below_drew1) | exact HB.out)⟩
                    · replace c22 := Bool.eq_false_iff.mpr c22
                      subst c22
                      have H1 : ((letterlocklaw3_grown.f kj18 l0).bind fun t414 => ((letterlocklaw3_grown.f kj18 l1).bind fun t415 => ((term_OfPair.f t414 t412).bind fun bt416 => (if 1 + t414.size ≤ 9223372036854775807 then (if ((⟨#[112]⟩ : ByteArray) ++ t414).size + t412.size ≤ 9223372036854775807 then ((letterlockref3_Right.f kj18 (((⟨#[112]⟩ : ByteArray) ++ t414) ++ t412)).bind fun t418 => (if ((bt416.2 == 0) != t418) = true then (letterlocklaw3_TermSize.j3 kj18 a3 t414 t415 true) else (if bt416.2 = 0 then (if bt416.1.toList = (((⟨#[112]⟩ : ByteArray) ++ t414) ++ t412).toList then (letterlocklaw3_TermSize.j3 kj18 a3 t414 t415 false) else (letterlocklaw3_TermSize.j3 kj18 a3 t414 t415 true)) else (if bt416.2 = 10 then (letterlocklaw3_TermSize.j3 kj18 a3 t414 t415 (bt416.1.toList != ([] : List UInt8))) else (letterlocklaw3_TermSize.j3 kj18 a3 t414 t415 true))))) else (none)) else (none))))) = some r := by rw [if_neg (show ¬ (false = true) by decide)] at H; exact H
                      clear H
                      have H := H1
                      clear H1
                      replace H := Option.bind_eq_some_iff.mp H
                      obtain ⟨t414, A230, H⟩ := H
                      replace H : ((letterlocklaw3_grown.f kj18 l1).bind fun t415 => ((term_OfPair.f t414 t412).bind fun bt416 => (if 1 + t414.size ≤ 9223372036854775807 then (if ((⟨#[112]⟩ : ByteArray) ++ t414).size + t412.size ≤ 9223372036854775807 then ((letterlockref3_Right.f kj18 (((⟨#[112]⟩ : ByteArray) ++ t414) ++ t412)).bind fun t418 => (if ((bt416.2 == 0) != t418) = true then (letterlocklaw3_TermSize.j3 kj18 a3 t414 t415 true) else (if bt416.2 = 0 then (if bt416.1.toList = (((⟨#[112]⟩ : ByteArray) ++ t414) ++ t412).toList then (letterlocklaw3_TermSize.j3 kj18 a3 t414 t415 false) else (letterlocklaw3_TermSize.j3 kj18 a3 t414 t415 true)) else (if bt416.2 = 10 then (letterlocklaw3_TermSize.j3 kj18 a3 t414 t415 (bt416.1.toList != ([] : List UInt8))) else (letterlocklaw3_TermSize.j3 kj18 a3 t414 t415 true))))) else (none)) else (none)))) = some r := H
                      have A23 := Aside0.mk A230
                      clear A230
                      replace H := Option.bind_eq_some_iff.mp H
                      obtain ⟨t415, A240, H⟩ := H
                      replace H : ((term_OfPair.f t414 t412).bind fun bt416 => (if 1 + t414.size ≤ 9223372036854775807 then (if ((⟨#[112]⟩ : ByteArray) ++ t414).size + t412.size ≤ 9223372036854775807 then ((letterlockref3_Right.f kj18 (((⟨#[112]⟩ : ByteArray) ++ t414) ++ t412)).bind fun t418 => (if ((bt416.2 == 0) != t418) = true then (letterlocklaw3_TermSize.j3 kj18 a3 t414 t415 true) else (if bt416.2 = 0 then (if bt416.1.toList = (((⟨#[112]⟩ : ByteArray) ++ t414) ++ t412).toList then (letterlocklaw3_TermSize.j3 kj18 a3 t414 t415 false) else (letterlocklaw3_TermSize.j3 kj18 a3 t414 t415 true)) else (if bt416.2 = 10 then (letterlocklaw3_TermSize.j3 kj18 a3 t414 t415 (bt416.1.toList != ([] : List UInt8))) else (letterlocklaw3_TermSize.j3 kj18 a3 t414 t415 true))))) else (none)) else (none))) = some r := H
                      have A24 := Aside0.mk A240
                      clear A240
                      replace H := Option.bind_eq_some_iff.mp H
                      obtain ⟨⟨t416, t417⟩, A250, H⟩ := H
                      replace H : (if 1 + t414.size ≤ 9223372036854775807 then (if ((⟨#[112]⟩ : ByteArray) ++ t414).size + t412.size ≤ 9223372036854775807 then ((letterlockref3_Right.f kj18 (((⟨#[112]⟩ : ByteArray) ++ t414) ++ t412)).bind fun t418 => (if ((t417 == 0) != t418) = true then (letterlocklaw3_TermSize.j3 kj18 a3 t414 t415 true) else (if t417 = 0 then (if t416.toList = (((⟨#[112]⟩ : ByteArray) ++ t414) ++ t412).toList then (letterlocklaw3_TermSize.j3 kj18 a3 t414 t415 false) else (letterlocklaw3_TermSize.j3 kj18 a3 t414 t415 true)) else (if t417 = 10 then (letterlocklaw3_TermSize.j3 kj18 a3 t414 t415 (t416.toList != ([] : List UInt8))) else (letterlocklaw3_TermSize.j3 kj18 a3 t414 t415 true))))) else (none)) else (none)) = some r := H
                      have A25 := Aside0.mk A250
                      clear A250
                      have HC26 := Aside0.mk H
                      clear H
                      go_upto_region 23 with (first | ((with_reducible refine gate_callee (f := 11) rfl ?_); refine goesL_ (some 71) rfl rfl Try.func11 (by kernel_rfl) rfl #[.slice A0 l0.length c0] rfl (by (try simp only [List.map_toArray, List.map_cons, List.map_nil]); first | done | rfl | (simp only [List.length_drop, List.length_take]; rfl)) ?_; (with_reducible refine (letterlocklaw3_grown.calls kj18 _ _ l0 t414 _ ?side1 ?side2 A23.out).mono ?_); (case side1 => repeat (first | exact (Kd.C_below HR0.out HB.out) | (with_reducible refine Kd.C_alloc ?_ _) | (with_reducible refine Kd.C_drewN ?_ _) | (with_reducible refine Kd.C_drew ?_))); (case side2 => exact HC0.out); rintro e w27 ⟨rfl, hb⟩; refine ⟨_, rfl, ?_⟩; have n0_ := Aside0.mk (below_step (by repeat (first | (with_reducible first | exact HB.out | apply below_alloc | apply pw_below_drewN | apply below_drew1) | exact HB.out)) hb); clear HB; have HB := n0_; clear n0_; (try clear hb); (try clear hb2); (try clear hk); (try clear hi)) | ((with_reducible refine gate_callee (f := 11) rfl ?_); refine goesL_ (some 73) rfl rfl Try.func11 (by kernel_rfl) rfl #[.slice A1 l1.length c1] rfl (by (try simp only [List.map_toArray, List.map_cons, List.map_nil]); first | done | rfl | (simp only [List.length_drop, List.length_take]; rfl)) ?_; (with_reducible refine (letterlocklaw3_grown.calls kj18 _ _ l1 t415 _ ?side1 ?side2 A24.out).mono ?_); (case side1 => repeat (first | exact (Kd.C_below HR1.out HB.out) | (with_reducible refine Kd.C_alloc ?_ _) | (with_reducible refine Kd.C_drewN ?_ _) | (with_reducible refine Kd.C_drew ?_))); (case side2 => exact HC1.out); rintro e w28 ⟨rfl, hb⟩; refine ⟨_, rfl, ?_⟩; have n0_ := Aside0.mk (below_step (by repeat (first | (with_reducible first | exact HB.out | apply below_alloc | apply pw_below_drewN | apply below_drew1) | exact HB.out)) hb); clear HB; have HB := n0_; clear n0_; (try clear hb); (try clear hb2); (try clear hk); (try clear hi)) | ((with_reducible refine gate_callee (f := 12) rfl ?_); refine goesL_ (some 77) rfl rfl Try.func12 (by kernel_rfl) rfl #[.string t414, .string t412] rfl (by (try simp only [List.map_toArray, List.map_cons, List.map_nil]); first | done | rfl | (simp only [List.length_drop, List.length_take]; rfl)) ?_; (with_reducible refine (term_OfPair.calls t414 t412 t416 t417 _ A25.out).mono ?_); rintro e w29 ⟨rfl, hb⟩; refine ⟨_, rfl, ?_⟩; have n0_ := Aside0.mk (below_step (by repeat (first | (with_reducible first | exact HB.out | apply below_alloc | apply pw_below_drewN | apply below_drew1) | exact HB.out)) hb); clear HB; have HB := n0_; clear n0_; (try clear hb); (try clear hb2); (try clear hk); (try clear hi)))
                      (try simp only [Act.put, List.setIfInBounds_toArray, List.set_cons_zero, List.set_cons_succ])
                      go_cut [111] (fun v111 wc => ∃ (kq : Nat) (x111_25 : Bool), v111 = .bool x111_25 ∧ Aside0 (letterlocklaw3_TermSize.j3 kq a3 t414 t415 x111_25 = some r) ∧ Aside0 (kq ≤ kj18) ∧ Aside0 (Below w.heap.size w wc))
                      case first => as_aux_lemma =>
                        have H := HC26.out
                        clear HC26
                        by_cases c30 : 1 + t414.size ≤ 9223372036854775807
                        · rw [if_pos c30] at H
                          have c30b0 := eq_true c30
                          have c30b1 : decide (1 + t414.size ≤ 9223372036854775807) = true := decide_eq_true c30
                          try have c30b2 : (9223372036854775807 < 1 + t414.size) = False := eq_false (Nat.not_lt.2 c30)
                          by_cases c31 : ((⟨#[112]⟩ : ByteArray) ++ t414).size + t412.size ≤ 9223372036854775807
                          · rw [if_pos c31] at H
                            have c31b0 := eq_true c31
                            have c31b1 : decide (((⟨#[112]⟩ : ByteArray) ++ t414).size + t412.size ≤ 9223372036854775807) = true := decide_eq_true c31
                            try have c31b2 : (9223372036854775807 < ((⟨#[112]⟩ : ByteArray) ++ t414).size + t412.size) = False := eq_false (Nat.not_lt.2 c31)
                            (try (have c31b0n := c31b0; simp only [ByteArray.size_append, ByteArray.size_extract, Nat.min_self, size_lit1, Int.natCast_add, Int.natCast_one] at c31b0n))
                            (try (have c31b1n := c31b1; simp only [ByteArray.size_append, ByteArray.size_extract, Nat.min_self, size_lit1, Int.natCast_add, Int.natCast_one] at c31b1n))
                            (try (have c31b2n := c31b2; simp only [ByteArray.size_append, ByteArray.size_extract, Nat.min_self, size_lit1, Int.natCast_add, Int.natCast_one] at c31b2n))
                            replace H := Option.bind_eq_some_iff.mp H
                            obtain ⟨t418, A320, H⟩ := H
                            replace H : (if ((t417 == 0) != t418) = true then (letterlocklaw3_TermSize.j3 kj18 a3 t414 t415 true) else (if t417 = 0 then (if t416.toList = (((⟨#[112]⟩ : ByteArray) ++ t414) ++ t412).toList then (letterlocklaw3_TermSize.j3 kj18 a3 t414 t415 false) else (letterlocklaw3_TermSize.j3 kj18 a3 t414 t415 true)) else (if t417 = 10 then (letterlocklaw3_TermSize.j3 kj18 a3 t414 t415 (t416.toList != ([] : List UInt8))) else (letterlocklaw3_TermSize.j3 kj18 a3 t414 t415 true)))) = some r := H
                            have A32 := Aside0.mk A320
                            clear A320
                            by_cases d24 : t417 = 0
                            · have d24b0 : (t417 == 0) = true := beq_iff_eq.mpr d24
                              have d24b1 : (t417 != 0) = false := bne_eq_false_iff_eq.mpr d24
                              clear d24
                              rcases Bool.eq_false_or_eq_true t418 with d25 | d25
                              · have c33 : ((t417 == 0) != t418) = false := by rw [d24b0, d25]; rfl
                                rw [if_neg (by rw [c33]; decide)] at H
                                clear c33
                                (first | rw [c33b0] | (simp only [i64_w, i32_w]; rw [c33b0]) | skip)
                                have c35 : t417 = 0 := beq_iff_eq.mp d24b0
                                rw [if_pos c35] at H
                                clear c35
                                by_cases c36 : t416.toList = (((⟨#[112]⟩ : ByteArray) ++ t414) ++ t412).toList
                                · rw [if_pos c36] at H
                                  have c36b0 : (t416.toList == (((⟨#[112]⟩ : ByteArray) ++ t414) ++ t412).toList) = true := beq_iff_eq.mpr c36
                                  have c36b1 : (t416.toList != (((⟨#[112]⟩ : ByteArray) ++ t414) ++ t412).toList) = false := bne_eq_false_iff_eq.mpr c36
                                  clear c36
                                  have H' := Aside0.mk H
                                  clear H
                                  go_wp2_with (first | ((with_reducible refine gate_callee (f := 28) rfl ?_); refine goesL_ (some 86) rfl rfl Try.func28 (by kernel_rfl) rfl #[.string (((⟨#[112]⟩ : ByteArray) ++ t414) ++ t412)] rfl (by (try simp only [List.map_toArray, List.map_cons, List.map_nil]); first | done | rfl | (simp only [List.length_drop, List.length_take]; rfl)) ?_; (with_reducible refine (letterlockref3_Right.calls kj18 (((⟨#[112]⟩ : ByteArray) ++ t414) ++ t412) t418 _ A32.out).mono ?_); rintro e w37 ⟨rfl, hb⟩; refine ⟨_, rfl, ?_⟩; have n0_ := Aside0.mk (below_step (by repeat (first | (with_reducible first | exact HB.out | apply below_alloc | apply pw_below_drewN | apply below_drew1) | exact HB.out)) hb); clear HB; have HB := n0_; clear n0_; (try clear hb); (try clear hb2); (try clear hk); (try clear hi)))
                                  go_meet
                                  case rel => exact ⟨_, (false), (by first | rfl | (simp; done) | (simp [*]; done) | (simp; exact isEmpty_ne _)), H', ⟨by have := HK1.out; have := HJ10.out; have := HJ18.out; first | omega | exact Nat.le_refl _⟩, ⟨by repeat (first | (with_reducible first | exact HB.out | apply below_alloc | apply pw_below_drewN | apply below_drew1) | exact HB.out)⟩⟩
                                · rw [if_neg c36] at H
                                  have c36b0 : (t416.toList == (((⟨#[112]⟩ : ByteArray) ++ t414) ++ t412).toList) = false := beq_eq_false_iff_ne.mpr c36
                                  have c36b1 : (t416.toList != (((⟨#[112]⟩ : ByteArray) ++ t414) ++ t412).toList) = true := bne_iff_ne.mpr c36
                                  have H' := Aside0.mk H
                                  clear H
                                  go_wp2_with (first | ((with_reducible refine gate_callee (f := 28) rfl ?_); refine goesL_ (some 86) rfl rfl Try.func28 (by kernel_rfl) rfl #[.string (((⟨#[112]⟩ : ByteArray) ++ t414) ++ t412)] rfl (by (try simp only [List.map_toArray, List.map_cons, List.map_nil]); first | done | rfl | (simp only [List.length_drop, List.length_take]; rfl)) ?_; (with_reducible refine (letterlockref3_Right.calls kj18 (((⟨#[112]⟩ : ByteArray) ++ t414) ++ t412) t418 _ A32.out).mono ?_); rintro e w38 ⟨rfl, hb⟩; refine ⟨_, rfl, ?_⟩; have n0_ := Aside0.mk (below_step (by repeat (first | (with_reducible first | exact HB.out | apply below_alloc | apply pw_below_drewN | apply below_drew1) | exact HB.out)) hb); clear HB; have HB := n0_; clear n0_; (try clear hb); (try clear hb2); (try clear hk); (try clear hi)))
                                  go_meet
                                  case rel => exact ⟨_, (true), (by first | rfl | (simp; done) | (simp [*]; done) | (simp; exact isEmpty_ne _)), H', ⟨by have := HK1.out; have := HJ10.out; have := HJ18.out; first | omega | exact Nat.le_refl _⟩, ⟨by repeat (first | (with_reducible first | exact HB.out | apply below_alloc | apply pw_below_drewN | apply below_drew1) | exact HB.out)⟩⟩
                              · have c33 : ((t417 == 0) != t418) = true := by rw [d24b0, d25]; rfl
                                rw [if_pos c33] at H
                                clear c33
                                (first | rw [c33b0] | (simp only [i64_w, i32_w]; rw [c33b0]) | skip)
                                have H' := Aside0.mk H
                                clear H
                                go_wp2_with (first | ((with_reducible refine gate_callee (f := 28) rfl ?_); refine goesL_ (some 86) rfl rfl Try.func28 (by kernel_rfl) rfl #[.string (((⟨#[112]⟩ : ByteArray) ++ t414) ++ t412)] rfl (by (try simp only [List.map_toArray, List.map_cons, List.map_nil]); first | done | rfl | (simp only [List.length_drop, List.length_take]; rfl)) ?_; (with_reducible refine (letterlockref3_Right.calls kj18 (((⟨#[112]⟩ : ByteArray) ++ t414) ++ t412) t418 _ A32.out).mono ?_); rintro e w34 ⟨rfl, hb⟩; refine ⟨_, rfl, ?_⟩; have n0_ := Aside0.mk (below_step (by repeat (first | (with_reducible first | exact HB.out | apply below_alloc | apply pw_below_drewN | apply below_drew1) | exact HB.out)) hb); clear HB; have HB := n0_; clear n0_; (try clear hb); (try clear hb2); (try clear hk); (try clear hi)))
                                go_meet
                                case rel => exact ⟨_, (true), (by first | rfl | (simp; done) | (simp [*]; done) | (simp; exact isEmpty_ne _)), H', ⟨by have := HK1.out; have := HJ10.out; have := HJ18.out; first | omega | exact Nat.le_refl _⟩, ⟨by repeat (first | (with_reducible first | exact HB.out | apply below_alloc | apply pw_below_drewN | apply below_drew1) | exact HB.out)⟩⟩
                            · have d24b0 : (t417 == 0) = false := beq_eq_false_iff_ne.mpr d24
                              have d24b1 : (t417 != 0) = true := bne_iff_ne.mpr d24
                              clear d24
                              rcases Bool.eq_false_or_eq_true t418 with d26 | d26
                              · have c33 : ((t417 == 0) != t418) = true := by rw [d24b0, d26]; rfl
                                rw [if_pos c33] at H
                                clear c33
                                (first | rw [c33b0] | (simp only [i64_w, i32_w]; rw [c33b0]) | skip)
                                have H' := Aside0.mk H
                                clear H
                                go_wp2_with (first | ((with_reducible refine gate_callee (f := 28) rfl ?_); refine goesL_ (some 86) rfl rfl Try.func28 (by kernel_rfl) rfl #[.string (((⟨#[112]⟩ : ByteArray) ++ t414) ++ t412)] rfl (by (try simp only [List.map_toArray, List.map_cons, List.map_nil]); first | done | rfl | (simp only [List.length_drop, List.length_take]; rfl)) ?_; (with_reducible refine (letterlockref3_Right.calls kj18 (((⟨#[112]⟩ : ByteArray) ++ t414) ++ t412) t418 _ A32.out).mono ?_); rintro e w34 ⟨rfl, hb⟩; refine ⟨_, rfl, ?_⟩; have n0_ := Aside0.mk (below_step (by repeat (first | (with_reducible first | exact HB.out | apply below_alloc | apply pw_below_drewN | apply below_drew1) | exact HB.out)) hb); clear HB; have HB := n0_; clear n0_; (try clear hb); (try clear hb2); (try clear hk); (try clear hi)))
                                go_meet
                                case rel => exact ⟨_, (true), (by first | rfl | (simp; done) | (simp [*]; done) | (simp; exact isEmpty_ne _)), H', ⟨by have := HK1.out; have := HJ10.out; have := HJ18.out; first | omega | exact Nat.le_refl _⟩, ⟨by repeat (first | (with_reducible first | exact HB.out | apply below_alloc | apply pw_below_drewN | apply below_drew1) | exact HB.out)⟩⟩
                              · have c33 : ((t417 == 0) != t418) = false := by rw [d24b0, d26]; rfl
                                rw [if_neg (by rw [c33]; decide)] at H
                                clear c33
                                (first | rw [c33b0] | (simp only [i64_w, i32_w]; rw [c33b0]) | skip)
                                have c35 : ¬ (t417 = 0) := beq_eq_false_iff_ne.mp d24b0
                                rw [if_neg c35] at H
                                clear c35
                                by_cases c39 : t417 = 10
                                · rw [if_pos c39] at H
                                  have c39b0 : (t417 == 10) = true := beq_iff_eq.mpr c39
                                  have c39b1 : (t417 != 10) = false := bne_eq_false_iff_eq.mpr c39
                                  clear c39
                                  have H' := Aside0.mk H
                                  clear H
                                  go_wp2_with (first | ((with_reducible refine gate_callee (f := 28) rfl ?_); refine goesL_ (some 86) rfl rfl Try.func28 (by kernel_rfl) rfl #[.string (((⟨#[112]⟩ : ByteArray) ++ t414) ++ t412)] rfl (by (try simp only [List.map_toArray, List.map_cons, List.map_nil]); first | done | rfl | (simp only [List.length_drop, List.length_take]; rfl)) ?_; (with_reducible refine (letterlockref3_Right.calls kj18 (((⟨#[112]⟩ : ByteArray) ++ t414) ++ t412) t418 _ A32.out).mono ?_); rintro e w40 ⟨rfl, hb⟩; refine ⟨_, rfl, ?_⟩; have n0_ := Aside0.mk (below_step (by repeat (first | (with_reducible first | exact HB.out | apply below_alloc | apply pw_below_drewN | apply below_drew1) | exact HB.out)) hb); clear HB; have HB := n0_; clear n0_; (try clear hb); (try clear hb2); (try clear hk); (try clear hi)))
                                  go_meet
                                  case rel => exact ⟨_, ((t416.toList != ([] : List UInt8))), (by first | rfl | (simp; done) | (simp [*]; done) | (simp; exact isEmpty_ne _)), H', ⟨by have := HK1.out; have := HJ10.out; have := HJ18.out; first | omega | exact Nat.le_refl _⟩, ⟨by repeat (first | (with_reducible first | exact HB.out | apply below_alloc | apply pw_below_drewN | apply below_drew1) | exact HB.out)⟩⟩
                                · rw [if_neg c39] at H
                                  have c39b0 : (t417 == 10) = false := beq_eq_false_iff_ne.mpr c39
                                  have c39b1 : (t417 != 10) = true := bne_iff_ne.mpr c39
                                  have H' := Aside0.mk H
                                  clear H
                                  go_wp2_with (first | ((with_reducible refine gate_callee (f := 28) rfl ?_); refine goesL_ (some 86) rfl rfl Try.func28 (by kernel_rfl) rfl #[.string (((⟨#[112]⟩ : ByteArray) ++ t414) ++ t412)] rfl (by (try simp only [List.map_toArray, List.map_cons, List.map_nil]); first | done | rfl | (simp only [List.length_drop, List.length_take]; rfl)) ?_; (with_reducible refine (letterlockref3_Right.calls kj18 (((⟨#[112]⟩ : ByteArray) ++ t414) ++ t412) t418 _ A32.out).mono ?_); rintro e w41 ⟨rfl, hb⟩; refine ⟨_, rfl, ?_⟩; have n0_ := Aside0.mk (below_step (by repeat (first | (with_reducible first | exact HB.out | apply below_alloc | apply pw_below_drewN | apply below_drew1) | exact HB.out)) hb); clear HB; have HB := n0_; clear n0_; (try clear hb); (try clear hb2); (try clear hk); (try clear hi)))
                                  go_meet
                                  case rel => exact ⟨_, (true), (by first | rfl | (simp; done) | (simp [*]; done) | (simp; exact isEmpty_ne _)), H', ⟨by have := HK1.out; have := HJ10.out; have := HJ18.out; first | omega | exact Nat.le_refl _⟩, ⟨by repeat (first | (with_reducible first | exact HB.out | apply below_alloc | apply pw_below_drewN | apply below_drew1) | exact HB.out)⟩⟩
                          · rw [if_neg c31] at H
                            exact absurd H (by simp)
                        · rw [if_neg c30] at H
                          exact absurd H (by simp)
                      case rest => as_aux_lemma =>
                        clear HC26
                        try clear c1
                        try clear c2
                        try clear p2
                        try clear c3
                        try clear c6
                        try clear p6
                        try clear c7
                        try clear c9
                        try clear c9b0
                        try clear c10
                        try clear c10b0
                        try clear c10b1
                        try clear c10b2
                        try clear c11
                        try clear c12
                        try clear c12b0
                        try clear c13
                        try clear c13b0
                        try clear c15
                        try clear c15b0
                        try clear c16
                        try clear c16b0
                        try clear c16b1
                        try clear c21
                        try clear c21b0
                        try clear c21b1
                        try clear c22
                        try clear c26
                        try clear c27
                        try clear c28
                        try clear c30
                        try clear c30b0
                        try clear c30b1
                        try clear c30b2
                        try clear c31
                        try clear c31b0
                        try clear c31b1
                        try clear c31b2
                        try clear c33
                        try clear c33b0
                        try clear c33b1
                        try clear c33b2
                        try clear c35
                        try clear c35b0
                        try clear c35b1
                        try clear c36
                        try clear c36b0
                        try clear c36b1
                        try clear c39
                        try clear c39b0
                        try clear c39b1
                        try clear p2
                        try clear p6
                        obtain ⟨kq, x111_25, rfl, HA, HJ25, HB⟩ := hcut
                        cases kq with
                        | zero => exact absurd HA.out (by simp [letterlocklaw3_TermSize.j3])
                        | succ kj25 =>
                          have H := HA.out
                          clear HA
                          simp only [letterlocklaw3_TermSize.j3] at H
                          by_cases c42 : x111_25 = true
                          · subst c42
                            have H1 : (some false) = some r := by rw [if_pos rfl] at H; exact H
                            clear H
                            have H := H1
                            clear H1
                            obtain rfl := Option.some.inj H
                            go_wp2
                            go_ret
                            exact ⟨by first | rfl | (simp [errW_none, errW_some] <;> rfl) | (simp [*, errW_none, errW_some] <;> rfl), by repeat (first | (with_reducible first | exact HB.out | apply below_alloc | apply pw_below_drewN | apply below_drew1) | exact HB.out)⟩
                          · replace c42 := Bool.eq_false_iff.mpr c42
                            subst c42
                            have H1 : ((term_OfAtom.f kj25 7).bind fun t419 => (letterlocklaw3_TermSize.l1 kj25 a3 t414 t415 t419 1)) = some r := by rw [if_neg (show ¬ (false = true) by decide)] at H; exact H
                            clear H
                            have H := H1
                            clear H1
                            replace H := Option.bind_eq_some_iff.mp H
                            obtain ⟨t419, A430, H⟩ := H
                            replace H : (letterlocklaw3_TermSize.l1 kj25 a3 t414 t415 t419 1) = some r := H
                            have A43 := Aside0.mk A430
                            clear A430
                            have H' := Aside0.mk H
                            clear H
                            go_wp2_with (first | ((with_reducible refine gate_callee (f := 29) rfl ?_); refine goesL_ (some 112) rfl rfl Try.func29 (by kernel_rfl) rfl #[.int .u64 7] rfl (by (try simp only [List.map_toArray, List.map_cons, List.map_nil]); first | done | rfl | (simp only [List.length_drop, List.length_take]; rfl)) ?_; (with_reducible refine (term_OfAtom.calls kj25 7 t419 _ A43.out).mono ?_); rintro e w44 ⟨rfl, hb⟩; refine ⟨_, rfl, ?_⟩; have n0_ := Aside0.mk (below_step (by repeat (first | (with_reducible first | exact HB.out | apply below_alloc | apply pw_below_drewN | apply below_drew1) | exact HB.out)) hb); clear HB; have HB := n0_; clear n0_; (try clear hb); (try clear hb2); (try clear hk); (try clear hi)))
                            go_loopg [20, 21] kj25 (fun kq v20 v21 w' => ∃ (x20_5 : ByteArray) (x21_5 : Int), v20 = .string x20_5 ∧ v21 = .int .i64 x21_5 ∧ Aside0 (letterlocklaw3_TermSize.l1 kq a3 t414 t415 x20_5 x21_5 = some r) ∧ Aside0 (kq ≤ kj25) ∧ Aside0 (Below w.heap.size w w'))
                            case atStart => exact ⟨(t419), (1), (by first | rfl | (simp; done) | (simp [*]; done) | (simp; exact isEmpty_ne _)), (by first | rfl | (simp; done) | (simp [*]; done) | (simp; exact isEmpty_ne _)), H', ⟨Nat.le_refl _⟩, ⟨by repeat (first | (with_reducible first | exact HB.out | apply below_alloc | apply pw_below_drewN | apply below_drew1) | exact HB.out)⟩⟩
                            case round => as_aux_lemma =>
                              clear H'
                              try clear c1
                              try clear c2
                              try clear p2
                              try clear c3
                              try clear c4
                              try clear c6
                              try clear p6
                              try clear c7
                              try clear c9
                              try clear c9b0
                              try clear c10
                              try clear c10b0
                              try clear c10b1
                              try clear c10b2
                              try clear c11
                              try clear c12
                              try clear c12b0
                              try clear c13
                              try clear c13b0
                              try clear c15
                              try clear c15b0
                              try clear c16
                              try clear c16b0
                              try clear c16b1
                              try clear c21
                              try clear c21b0
                              try clear c21b1
                              try clear c22
                              try clear c26
                              try clear c27
                              try clear c28
                              try clear c29
                              try clear c30
                              try clear c30b0
                              try clear c30b1
                              try clear c30b2
                              try clear c31
                              try clear c31b0
                              try clear c31b1
                              try clear c31b2
                              try clear c33
                              try clear c33b0
                              try clear c33b1
                              try clear c33b2
                              try clear c35
                              try clear c35b0
                              try clear c35b1
                              try clear c36
                              try clear c36b0
                              try clear c36b1
                              try clear c39
                              try clear c39b0
                              try clear c39b1
                              try clear c42
                              try clear p2
                              try clear p6
                              obtain ⟨x20_5, x21_5, rfl, rfl, HA, HK5, HB⟩ := hrel
                              cases gk with
                              | zero => exact absurd HA.out (by simp [letterlocklaw3_TermSize.l1])
                              | succ k5 =>
                                have H := HA.out
                                clear HA
                                simp only [letterlocklaw3_TermSize.l1] at H
                                replace H := Option.bind_eq_some_iff.mp H
                                obtain ⟨t420, A450, H⟩ := H
                                replace H : (if x21_5 ≤ t420 then ((term_OfHash.f x20_5).bind fun bt424 => (if ((bt424.2 == 0) != (decide (x21_5 < 40))) = true then (letterlocklaw3_TermSize.j5 k5 a3 t414 t415 x20_5 x21_5 bt424.1 bt424.2 true) else (if bt424.2 = 0 then (if 1 + x20_5.size ≤ 9223372036854775807 then (if bt424.1.toList = ((⟨#[104]⟩ : ByteArray) ++ x20_5).toList then (letterlocklaw3_TermSize.j5 k5 a3 t414 t415 x20_5 x21_5 bt424.1 bt424.2 false) else (letterlocklaw3_TermSize.j5 k5 a3 t414 t415 x20_5 x21_5 bt424.1 bt424.2 true)) else (none)) else (if bt424.2 = 10 then (letterlocklaw3_TermSize.j5 k5 a3 t414 t415 x20_5 x21_5 bt424.1 bt424.2 (bt424.1.toList != ([] : List UInt8))) else (letterlocklaw3_TermSize.j5 k5 a3 t414 t415 x20_5 x21_5 bt424.1 bt424.2 true))))) else ((term_Sign.f t414 t415).bind fun bt421 => (if 1 + t414.size ≤ 9223372036854775807 then (if ((⟨#[103]⟩ : ByteArray) ++ t414).size + t415.size ≤ 9223372036854775807 then ((letterlockref3_Right.f k5 (((⟨#[103]⟩ : ByteArray) ++ t414) ++ t415)).bind fun t423 => (if t423 = true then (if bt421.2 = 0 then (if bt421.1.toList = (((⟨#[103]⟩ : ByteArray) ++ t414) ++ t415).toList then (some true) else (some false)) else (some false)) else (if bt421.2 = 10 then (some (bt421.1.toList == ([] : List UInt8))) else (some false)))) else (none)) else (none)))) = some r := H
                                have A45 := Aside0.mk A450
                                clear A450
                                by_cases c46 : x21_5 ≤ t420
                                · rw [if_pos c46] at H
                                  have c46b0 : decide (x21_5 ≤ t420) = true := decide_eq_true c46
                                  clear c46
                                  replace H := Option.bind_eq_some_iff.mp H
                                  obtain ⟨⟨t424, t425⟩, A470, H⟩ := H
                                  replace H : (if ((t425 == 0) != (decide (x21_5 < 40))) = true then (letterlocklaw3_TermSize.j5 k5 a3 t414 t415 x20_5 x21_5 t424 t425 true) else (if t425 = 0 then (if 1 + x20_5.size ≤ 9223372036854775807 then (if t424.toList = ((⟨#[104]⟩ : ByteArray) ++ x20_5).toList then (letterlocklaw3_TermSize.j5 k5 a3 t414 t415 x20_5 x21_5 t424 t425 false) else (letterlocklaw3_TermSize.j5 k5 a3 t414 t415 x20_5 x21_5 t424 t425 true)) else (none)) else (if t425 = 10 then (letterlocklaw3_TermSize.j5 k5 a3 t414 t415 x20_5 x21_5 t424 t425 (t424.toList != ([] : List UInt8))) else (letterlocklaw3_TermSize.j5 k5 a3 t414 t415 x20_5 x21_5 t424 t425 true)))) = some r := H
                                  have A47 := Aside0.mk A470
                                  clear A470
                                  have HC48 := Aside0.mk H
                                  clear H
                                  go_upto_region 30 with (first | ((with_reducible refine gate_callee (f := 26) rfl ?_); refine goesL_ (some 115) rfl rfl Try.func26 (by kernel_rfl) rfl #[.int .i64 a3, .int .i64 45] rfl (by (try simp only [List.map_toArray, List.map_cons, List.map_nil]); first | done | rfl | (simp only [List.length_drop, List.length_take]; rfl)) ?_; (with_reducible refine (letterlocklaw3_pick.calls a3 45 t420 _ A45.out).mono ?_); rintro e w' ⟨rfl, ⟨nd, rfl⟩⟩; refine ⟨_, rfl, ?_⟩) | ((with_reducible refine gate_callee (f := 30) rfl ?_); refine goesL_ (some 121) rfl rfl Try.func30 (by kernel_rfl) rfl #[.string x20_5] rfl (by (try simp only [List.map_toArray, List.map_cons, List.map_nil]); first | done | rfl | (simp only [List.length_drop, List.length_take]; rfl)) ?_; (with_reducible refine (term_OfHash.calls x20_5 t424 t425 _ A47.out).mono ?_); rintro e w49 ⟨rfl, hb⟩; refine ⟨_, rfl, ?_⟩; have n0_ := Aside0.mk (below_step (by repeat (first | (with_reducible first | exact HB.out | apply below_alloc | apply pw_below_drewN | apply below_drew1) | exact HB.out)) hb); clear HB; have HB := n0_; clear n0_; (try clear hb); (try clear hb2); (try clear hk); (try clear hi)))
                                  (try simp only [Act.put, List.setIfInBounds_toArray, List.set_cons_zero, List.set_cons_succ])
                                  go_cut [150] (fun v150 wc => ∃ (kq : Nat) (x150_47 : Bool), v150 = .bool x150_47 ∧ Aside0 (letterlocklaw3_TermSize.j5 kq a3 t414 t415 x20_5 x21_5 t424 t425 x150_47 = some r) ∧ Aside0 (kq ≤ k5) ∧ Aside0 (Below w.heap.size w wc))
                                  case first => as_aux_lemma =>
                                    have H := HC48.out
                                    clear HC48
                                    by_cases d27 : t425 = 0
                                    · have d27b0 : (t425 == 0) = true := beq_iff_eq.mpr d27
                                      have d27b1 : (t425 != 0) = false := bne_eq_false_iff_eq.mpr d27
                                      clear d27
                                      by_cases d28 : x21_5 < 40
                                      · have d28b0 : decide (x21_5 < 40) = true := decide_eq_true d28
                                        clear d28
                                        have c50 : ((t425 == 0) != (decide (x21_5 < 40))) = false := by rw [d27b0, d28b0]; rfl
                                        rw [if_neg (by rw [c50]; decide)] at H
                                        clear c50
                                        (first | rw [c50b0] | (simp only [i64_w, i32_w]; rw [c50b0]) | skip)
                                        have c51 : t425 = 0 := beq_iff_eq.mp d27b0
                                        rw [if_pos c51] at H
                                        clear c51
                                        by_cases c52 : 1 + x20_5.size ≤ 9223372036854775807
                                        · rw [if_pos c52] at H
                                          have c52b0 := eq_true c52
                                          have c52b1 : decide (1 + x20_5.size ≤ 9223372036854775807) = true := decide_eq_true c52
                                          try have c52b2 : (9223372036854775807 < 1 + x20_5.size) = False := eq_false (Nat.not_lt.2 c52)
                                          by_cases c53 : t424.toList = ((⟨#[104]⟩ : ByteArray) ++ x20_5).toList
                                          · rw [if_pos c53] at H
                                            have c53b0 : (t424.toList == ((⟨#[104]⟩ : ByteArray) ++ x20_5).toList) = true := beq_iff_eq.mpr c53
                                            have c53b1 : (t424.toList != ((⟨#[104]⟩ : ByteArray) ++ x20_5).toList) = false := bne_eq_false_iff_eq.mpr c53
                                            clear c53
                                            have H' := Aside0.mk H
                                            clear H
                                            go_wp2
                                            go_meet
                                            case rel => exact ⟨_, (false), (by first | rfl | (simp; done) | (simp [*]; done) | (simp; exact isEmpty_ne _)), H', ⟨by have := HK1.out; have := HJ10.out; have := HJ18.out; have := HJ25.out; have := HK5.out; first | omega | exact Nat.le_refl _⟩, ⟨by repeat (first | (with_reducible first | exact HB.out | apply below_alloc | apply pw_below_drewN | apply below_drew1) | exact HB.out)⟩⟩
                                          · rw [if_neg c53] at H
                                            have c53b0 : (t424.toList == ((⟨#[104]⟩ : ByteArray) ++ x20_5).toList) = false := beq_eq_false_iff_ne.mpr c53
                                            have c53b1 : (t424.toList != ((⟨#[104]⟩ : ByteArray) ++ x20_5).toList) = true := bne_iff_ne.mpr c53
                                            have H' := Aside0.mk H
                                            clear H
                                            go_wp2
                                            go_meet
                                            case rel => exact ⟨_, (true), (by first | rfl | (simp; done) | (simp [*]; done) | (simp; exact isEmpty_ne _)), H', ⟨by have := HK1.out; have := HJ10.out; have := HJ18.out; have := HJ25.out; have := HK5.out; first | omega | exact Nat.le_refl _⟩, ⟨by repeat (first | (with_reducible first | exact HB.out | apply below_alloc | apply pw_below_drewN | apply below_drew1) | exact HB.out)⟩⟩
                                        · rw [if_neg c52] at H
                                          exact absurd H (by simp)
                                      · have d28b0 : decide (x21_5 < 40) = false := decide_eq_false d28
                                        clear d28
                                        have c50 : ((t425 == 0) != (decide (x21_5 < 40))) = true := by rw [d27b0, d28b0]; rfl
                                        rw [if_pos c50] at H
                                        clear c50
                                        (first | rw [c50b0] | (simp only [i64_w, i32_w]; rw [c50b0]) | skip)
                                        have H' := Aside0.mk H
                                        clear H
                                        go_wp2
                                        go_meet
                                        case rel => exact ⟨_, (true), (by first | rfl | (simp; done) | (simp [*]; done) | (simp; exact isEmpty_ne _)), H', ⟨by have := HK1.out; have := HJ10.out; have := HJ18.out; have := HJ25.out; have := HK5.out; first | omega | exact Nat.le_refl _⟩, ⟨by repeat (first | (with_reducible first | exact HB.out | apply below_alloc | apply pw_below_drewN | apply below_drew1) | exact HB.out)⟩⟩
                                    · have d27b0 : (t425 == 0) = false := beq_eq_false_iff_ne.mpr d27
                                      have d27b1 : (t425 != 0) = true := bne_iff_ne.mpr d27
                                      clear d27
                                      by_cases d29 : x21_5 < 40
                                      · have d29b0 : decide (x21_5 < 40) = true := decide_eq_true d29
                                        clear d29
                                        have c50 : ((t425 == 0) != (decide (x21_5 < 40))) = true := by rw [d27b0, d29b0]; rfl
                                        rw [if_pos c50] at H
                                        clear c50
                                        (first | rw [c50b0] | (simp only [i64_w, i32_w]; rw [c50b0]) | skip)
                                        have H' := Aside0.mk H
                                        clear H
                                        go_wp2
                                        go_meet
                                        case rel => exact ⟨_, (true), (by first | rfl | (simp; done) | (simp [*]; done) | (simp; exact isEmpty_ne _)), H', ⟨by have := HK1.out; have := HJ10.out; have := HJ18.out; have := HJ25.out; have := HK5.out; first | omega | exact Nat.le_refl _⟩, ⟨by repeat (first | (with_reducible first | exact HB.out | apply below_alloc | apply pw_below_drewN | apply below_drew1) | exact HB.out)⟩⟩
                                      · have d29b0 : decide (x21_5 < 40) = false := decide_eq_false d29
                                        clear d29
                                        have c50 : ((t425 == 0) != (decide (x21_5 < 40))) = false := by rw [d27b0, d29b0]; rfl
                                        rw [if_neg (by rw [c50]; decide)] at H
                                        clear c50
                                        (first | rw [c50b0] | (simp only [i64_w, i32_w]; rw [c50b0]) | skip)
                                        have c51 : ¬ (t425 = 0) := beq_eq_false_iff_ne.mp d27b0
                                        rw [if_neg c51] at H
                                        clear c51
                                        by_cases c54 : t425 = 10
                                        · rw [if_pos c54] at H
                                          have c54b0 : (t425 == 10) = true := beq_iff_eq.mpr c54
                                          have c54b1 : (t425 != 10) = false := bne_eq_false_iff_eq.mpr c54
                                          clear c54
                                          have H' := Aside0.mk H
                                          clear H
                                          go_wp2
                                          go_meet
                                          case rel => exact ⟨_, ((t424.toList != ([] : List UInt8))), (by first | rfl | (simp; done) | (simp [*]; done) | (simp; exact isEmpty_ne _)), H', ⟨by have := HK1.out; have := HJ10.out; have := HJ18.out; have := HJ25.out; have := HK5.out; first | omega | exact Nat.le_refl _⟩, ⟨by repeat (first | (with_reducible first | exact HB.out | apply below_alloc | apply pw_below_drewN | apply below_drew1) | exact HB.out)⟩⟩
                                        · rw [if_neg c54] at H
                                          have c54b0 : (t425 == 10) = false := beq_eq_false_iff_ne.mpr c54
                                          have c54b1 : (t425 != 10) = true := bne_iff_ne.mpr c54
                                          have H' := Aside0.mk H
                                          clear H
                                          go_wp2
                                          go_meet
                                          case rel => exact ⟨_, (true), (by first | rfl | (simp; done) | (simp [*]; done) | (simp; exact isEmpty_ne _)), H', ⟨by have := HK1.out; have := HJ10.out; have := HJ18.out; have := HJ25.out; have := HK5.out; first | omega | exact Nat.le_refl _⟩, ⟨by repeat (first | (with_reducible first | exact HB.out | apply below_alloc | apply pw_below_drewN | apply below_drew1) | exact HB.out)⟩⟩
                                  case rest => as_aux_lemma =>
                                    clear HC48
                                    try clear c1
                                    try clear c2
                                    try clear p2
                                    try clear c3
                                    try clear c4
                                    try clear c5
                                    try clear c6
                                    try clear p6
                                    try clear c7
                                    try clear c9
                                    try clear c9b0
                                    try clear c10
                                    try clear c10b0
                                    try clear c10b1
                                    try clear c10b2
                                    try clear c11
                                    try clear c12
                                    try clear c12b0
                                    try clear c13
                                    try clear c13b0
                                    try clear c15
                                    try clear c15b0
                                    try clear c16
                                    try clear c16b0
                                    try clear c16b1
                                    try clear c21
                                    try clear c21b0
                                    try clear c21b1
                                    try clear c22
                                    try clear c26
                                    try clear c27
                                    try clear c28
                                    try clear c29
                                    try clear c30
                                    try clear c30b0
                                    try clear c30b1
                                    try clear c30b2
                                    try clear c31
                                    try clear c31b0
                                    try clear c31b1
                                    try clear c31b2
                                    try clear c33
                                    try clear c33b0
                                    try clear c33b1
                                    try clear c33b2
                                    try clear c35
                                    try clear c35b0
                                    try clear c35b1
                                    try clear c36
                                    try clear c36b0
                                    try clear c36b1
                                    try clear c39
                                    try clear c39b0
                                    try clear c39b1
                                    try clear c42
                                    try clear c46
                                    try clear c46b0
                                    try clear c50
                                    try clear c50b0
                                    try clear c50b1
                                    try clear c50b2
                                    try clear c51
                                    try clear c51b0
                                    try clear c51b1
                                    try clear c52
                                    try clear c52b0
                                    try clear c52b1
                                    try clear c52b2
                                    try clear c53
                                    try clear c53b0
                                    try clear c53b1
                                    try clear c54
                                    try clear c54b0
                                    try clear c54b1
                                    try clear p2
                                    try clear p6
                                    obtain ⟨kq, x150_47, rfl, HA, HJ47, HB⟩ := hcut
                                    cases kq with
                                    | zero => exact absurd HA.out (by simp [letterlocklaw3_TermSize.j5])
                                    | succ kj47 =>
                                      have H := HA.out
                                      clear HA
                                      simp only [letterlocklaw3_TermSize.j5] at H
                                      by_cases c55 : x150_47 = true
                                      · subst c55
                                        have H1 : (some false) = some r := by rw [if_pos rfl] at H; exact H
                                        clear H
                                        have H := H1
                                        clear H1
                                        obtain rfl := Option.some.inj H
                                        go_wp2
                                        go_ret
                                        exact ⟨by first | rfl | (simp [errW_none, errW_some] <;> rfl) | (simp [*, errW_none, errW_some] <;> rfl), by repeat (first | (with_reducible first | exact HB.out | apply below_alloc | apply pw_below_drewN | apply below_drew1) | exact HB.out)⟩
                                      · replace c55 := Bool.eq_false_iff.mpr c55
                                        subst c55
                                        have H1 : (if t425 = 0 then (letterlocklaw3_TermSize.l1 kj47 a3 t414 t415 t424 (wrap64 (x21_5 + 1))) else (letterlocklaw3_TermSize.l1 kj47 a3 t414 t415 x20_5 (wrap64 (x21_5 + 1)))) = some r := by rw [if_neg (show ¬ (false = true) by decide)] at H; exact H
                                        clear H
                                        have H := H1
                                        clear H1
                                        by_cases c56 : t425 = 0
                                        · rw [if_pos c56] at H
                                          have c56b0 : (t425 == 0) = true := beq_iff_eq.mpr c56
                                          have c56b1 : (t425 != 0) = false := bne_eq_false_iff_eq.mpr c56
                                          clear c56
                                          have H' := Aside0.mk H
                                          clear H
                                          go_wp2
                                          go_roundg kj47
                                          case measure => have := HK1.out; have := HJ10.out; have := HJ18.out; have := HJ25.out; have := HK5.out; have := HJ47.out; omega
                                          case rel => exact ⟨(t424), (wrap64 (x21_5 + 1)), (by first | rfl | (simp; done) | (simp [*]; done) | (simp; exact isEmpty_ne _)), (by first | rfl | (simp; done) | (simp [*]; done) | (simp; exact isEmpty_ne _)), H', ⟨by have := HK1.out; have := HJ10.out; have := HJ18.out; have := HJ25.out; have := HK5.out; have := HJ47.out; omega⟩, ⟨by repeat (first | (with_reducible first | exact HB.out | apply below_alloc | apply pw_below_drewN | apply below_drew1) | exact HB.out)⟩⟩
                                        · rw [if_neg c56] at H
                                          have c56b0 : (t425 == 0) = false := beq_eq_false_iff_ne.mpr c56
                                          have c56b1 : (t425 != 0) = true := bne_iff_ne.mpr c56
                                          have H' := Aside0.mk H
                                          clear H
                                          go_wp2
                                          go_roundg kj47
                                          case measure => have := HK1.out; have := HJ10.out; have := HJ18.out; have := HJ25.out; have := HK5.out; have := HJ47.out; omega
                                          case rel => exact ⟨(x20_5), (wrap64 (x21_5 + 1)), (by first | rfl | (simp; done) | (simp [*]; done) | (simp; exact isEmpty_ne _)), (by first | rfl | (simp; done) | (simp [*]; done) | (simp; exact isEmpty_ne _)), H', ⟨by have := HK1.out; have := HJ10.out; have := HJ18.out; have := HJ25.out; have := HK5.out; have := HJ47.out; omega⟩, ⟨by repeat (first | (with_reducible first | exact HB.out | apply below_alloc | apply pw_below_drewN | apply below_drew1) | exact HB.out)⟩⟩
                                · rw [if_neg c46] at H
                                  have c46b0 : decide (x21_5 ≤ t420) = false := decide_eq_false c46
                                  clear c46
                                  replace H := Option.bind_eq_some_iff.mp H
                                  obtain ⟨⟨t421, t422⟩, A570, H⟩ := H
                                  replace H : (if 1 + t414.size ≤ 9223372036854775807 then (if ((⟨#[103]⟩ : ByteArray) ++ t414).size + t415.size ≤ 9223372036854775807 then ((letterlockref3_Right.f k5 (((⟨#[103]⟩ : ByteArray) ++ t414) ++ t415)).bind fun t423 => (if t423 = true then (if t422 = 0 then (if t421.toList = (((⟨#[103]⟩ : ByteArray) ++ t414) ++ t415).toList then (some true) else (some false)) else (some false)) else (if t422 = 10 then (some (t421.toList == ([] : List UInt8))) else (some false)))) else (none)) else (none)) = some r := H
                                  have A57 := Aside0.mk A570
                                  clear A570
                                  by_cases c58 : 1 + t414.size ≤ 9223372036854775807
                                  · rw [if_pos c58] at H
                                    have c58b0 := eq_true c58
                                    have c58b1 : decide (1 + t414.size ≤ 9223372036854775807) = true := decide_eq_true c58
                                    try have c58b2 : (9223372036854775807 < 1 + t414.size) = False := eq_false (Nat.not_lt.2 c58)
                                    by_cases c59 : ((⟨#[103]⟩ : ByteArray) ++ t414).size + t415.size ≤ 9223372036854775807
                                    · rw [if_pos c59] at H
                                      have c59b0 := eq_true c59
                                      have c59b1 : decide (((⟨#[103]⟩ : ByteArray) ++ t414).size + t415.size ≤ 9223372036854775807) = true := decide_eq_true c59
                                      try have c59b2 : (9223372036854775807 < ((⟨#[103]⟩ : ByteArray) ++ t414).size + t415.size) = False := eq_false (Nat.not_lt.2 c59)
                                      (try (have c59b0n := c59b0; simp only [ByteArray.size_append, ByteArray.size_extract, Nat.min_self, size_lit1, Int.natCast_add, Int.natCast_one] at c59b0n))
                                      (try (have c59b1n := c59b1; simp only [ByteArray.size_append, ByteArray.size_extract, Nat.min_self, size_lit1, Int.natCast_add, Int.natCast_one] at c59b1n))
                                      (try (have c59b2n := c59b2; simp only [ByteArray.size_append, ByteArray.size_extract, Nat.min_self, size_lit1, Int.natCast_add, Int.natCast_one] at c59b2n))
                                      replace H := Option.bind_eq_some_iff.mp H
                                      obtain ⟨t423, A600, H⟩ := H
                                      replace H : (if t423 = true then (if t422 = 0 then (if t421.toList = (((⟨#[103]⟩ : ByteArray) ++ t414) ++ t415).toList then (some true) else (some false)) else (some false)) else (if t422 = 10 then (some (t421.toList == ([] : List UInt8))) else (some false))) = some r := H
                                      have A60 := Aside0.mk A600
                                      clear A600
                                      by_cases c61 : t423 = true
                                      · subst c61
                                        have H1 : (if t422 = 0 then (if t421.toList = (((⟨#[103]⟩ : ByteArray) ++ t414) ++ t415).toList then (some true) else (some false)) else (some false)) = some r := by rw [if_pos rfl] at H; exact H
                                        clear H
                                        have H := H1
                                        clear H1
                                        by_cases c62 : t422 = 0
                                        · rw [if_pos c62] at H
                                          have c62b0 : (t422 == 0) = true := beq_iff_eq.mpr c62
                                          have c62b1 : (t422 != 0) = false := bne_eq_false_iff_eq.mpr c62
                                          clear c62
                                          by_cases c63 : t421.toList = (((⟨#[103]⟩ : ByteArray) ++ t414) ++ t415).toList
                                          · rw [if_pos c63] at H
                                            have c63b0 : (t421.toList == (((⟨#[103]⟩ : ByteArray) ++ t414) ++ t415).toList) = true := beq_iff_eq.mpr c63
                                            have c63b1 : (t421.toList != (((⟨#[103]⟩ : ByteArray) ++ t414) ++ t415).toList) = false := bne_eq_false_iff_eq.mpr c63
                                            clear c63
                                            obtain rfl := Option.some.inj H
                                            go_wp2_with (first | ((with_reducible refine gate_callee (f := 26) rfl ?_); refine goesL_ (some 115) rfl rfl Try.func26 (by kernel_rfl) rfl #[.int .i64 a3, .int .i64 45] rfl (by (try simp only [List.map_toArray, List.map_cons, List.map_nil]); first | done | rfl | (simp only [List.length_drop, List.length_take]; rfl)) ?_; (with_reducible refine (letterlocklaw3_pick.calls a3 45 t420 _ A45.out).mono ?_); rintro e w' ⟨rfl, ⟨nd, rfl⟩⟩; refine ⟨_, rfl, ?_⟩) | ((with_reducible refine gate_callee (f := 14) rfl ?_); refine goesL_ (some 157) rfl rfl Try.func14 (by kernel_rfl) rfl #[.string t414, .string t415] rfl (by (try simp only [List.map_toArray, List.map_cons, List.map_nil]); first | done | rfl | (simp only [List.length_drop, List.length_take]; rfl)) ?_; (with_reducible refine (term_Sign.calls t414 t415 t421 t422 _ A57.out).mono ?_); rintro e w64 ⟨rfl, hb⟩; refine ⟨_, rfl, ?_⟩; have n0_ := Aside0.mk (below_step (by repeat (first | (with_reducible first | exact HB.out | apply below_alloc | apply pw_below_drewN | apply below_drew1) | exact HB.out)) hb); clear HB; have HB := n0_; clear n0_; (try clear hb); (try clear hb2); (try clear hk); (try clear hi)) | ((with_reducible refine gate_callee (f := 28) rfl ?_); refine goesL_ (some 164) rfl rfl Try.func28 (by kernel_rfl) rfl #[.string (((⟨#[103]⟩ : ByteArray) ++ t414) ++ t415)] rfl (by (try simp only [List.map_toArray, List.map_cons, List.map_nil]); first | done | rfl | (simp only [List.length_drop, List.length_take]; rfl)) ?_; (with_reducible refine (letterlockref3_Right.calls k5 (((⟨#[103]⟩ : ByteArray) ++ t414) ++ t415) true _ A60.out).mono ?_); rintro e w65 ⟨rfl, hb⟩; refine ⟨_, rfl, ?_⟩; have n0_ := Aside0.mk (below_step (by repeat (first | (with_reducible first | exact HB.out | apply below_alloc | apply pw_below_drewN | apply below_drew1) | exact HB.out)) hb); clear HB; have HB := n0_; clear n0_; (try clear hb); (try clear hb2); (try clear hk); (try clear hi)))
                                            go_ret
                                            exact ⟨by first | rfl | (simp [errW_none, errW_some] <;> rfl) | (simp [*, errW_none, errW_some] <;> rfl), by repeat (first | (with_reducible first | exact HB.out | apply below_alloc | apply pw_below_drewN | apply below_drew1) | exact HB.out)⟩
                                          · rw [if_neg c63] at H
                                            have c63b0 : (t421.toList == (((⟨#[103]⟩ : ByteArray) ++ t414) ++ t415).toList) = false := beq_eq_false_iff_ne.mpr c63
                                            have c63b1 : (t421.toList != (((⟨#[103]⟩ : ByteArray) ++ t414) ++ t415).toList) = true := bne_iff_ne.mpr c63
                                            obtain rfl := Option.some.inj H
                                            go_wp2_with (first | ((with_reducible refine gate_callee (f := 26) rfl ?_); refine goesL_ (some 115) rfl rfl Try.func26 (by kernel_rfl) rfl #[.int .i64 a3, .int .i64 45] rfl (by (try simp only [List.map_toArray, List.map_cons, List.map_nil]); first | done | rfl | (simp only [List.length_drop, List.length_take]; rfl)) ?_; (with_reducible refine (letterlocklaw3_pick.calls a3 45 t420 _ A45.out).mono ?_); rintro e w' ⟨rfl, ⟨nd, rfl⟩⟩; refine ⟨_, rfl, ?_⟩) | ((with_reducible refine gate_callee (f := 14) rfl ?_); refine goesL_ (some 157) rfl rfl Try.func14 (by kernel_rfl) rfl #[.string t414, .string t415] rfl (by (try simp only [List.map_toArray, List.map_cons, List.map_nil]); first | done | rfl | (simp only [List.length_drop, List.length_take]; rfl)) ?_; (with_reducible refine (term_Sign.calls t414 t415 t421 t422 _ A57.out).mono ?_); rintro e w66 ⟨rfl, hb⟩; refine ⟨_, rfl, ?_⟩; have n0_ := Aside0.mk (below_step (by repeat (first | (with_reducible first | exact HB.out | apply below_alloc | apply pw_below_drewN | apply below_drew1) | exact HB.out)) hb); clear HB; have HB := n0_; clear n0_; (try clear hb); (try clear hb2); (try clear hk); (try clear hi)) | ((with_reducible refine gate_callee (f := 28) rfl ?_); refine goesL_ (some 164) rfl rfl Try.func28 (by kernel_rfl) rfl #[.string (((⟨#[103]⟩ : ByteArray) ++ t414) ++ t415)] rfl (by (try simp only [List.map_toArray, List.map_cons, List.map_nil]); first | done | rfl | (simp only [List.length_drop, List.length_take]; rfl)) ?_; (with_reducible refine (letterlockref3_Right.calls k5 (((⟨#[103]⟩ : ByteArray) ++ t414) ++ t415) true _ A60.out).mono ?_); rintro e w67 ⟨rfl, hb⟩; refine ⟨_, rfl, ?_⟩; have n0_ := Aside0.mk (below_step (by repeat (first | (with_reducible first | exact HB.out | apply below_alloc | apply pw_below_drewN | apply below_drew1) | exact HB.out)) hb); clear HB; have HB := n0_; clear n0_; (try clear hb); (try clear hb2); (try clear hk); (try clear hi)))
                                            go_ret
                                            exact ⟨by first | rfl | (simp [errW_none, errW_some] <;> rfl) | (simp [*, errW_none, errW_some] <;> rfl), by repeat (first | (with_reducible first | exact HB.out | apply below_alloc | apply pw_below_drewN | apply below_drew1) | exact HB.out)⟩
                                        · rw [if_neg c62] at H
                                          have c62b0 : (t422 == 0) = false := beq_eq_false_iff_ne.mpr c62
                                          have c62b1 : (t422 != 0) = true := bne_iff_ne.mpr c62
                                          obtain rfl := Option.some.inj H
                                          go_wp2_with (first | ((with_reducible refine gate_callee (f := 26) rfl ?_); refine goesL_ (some 115) rfl rfl Try.func26 (by kernel_rfl) rfl #[.int .i64 a3, .int .i64 45] rfl (by (try simp only [List.map_toArray, List.map_cons, List.map_nil]); first | done | rfl | (simp only [List.length_drop, List.length_take]; rfl)) ?_; (with_reducible refine (letterlocklaw3_pick.calls a3 45 t420 _ A45.out).mono ?_); rintro e w' ⟨rfl, ⟨nd, rfl⟩⟩; refine ⟨_, rfl, ?_⟩) | ((with_reducible refine gate_callee (f := 14) rfl ?_); refine goesL_ (some 157) rfl rfl Try.func14 (by kernel_rfl) rfl #[.string t414, .string t415] rfl (by (try simp only [List.map_toArray, List.map_cons, List.map_nil]); first | done | rfl | (simp only [List.length_drop, List.length_take]; rfl)) ?_; (with_reducible refine (term_Sign.calls t414 t415 t421 t422 _ A57.out).mono ?_); rintro e w68 ⟨rfl, hb⟩; refine ⟨_, rfl, ?_⟩; have n0_ := Aside0.mk (below_step (by repeat (first | (with_reducible first | exact HB.out | apply below_alloc | apply pw_below_drewN | apply below_drew1) | exact HB.out)) hb); clear HB; have HB := n0_; clear n0_; (try clear hb); (try clear hb2); (try clear hk); (try clear hi)) | ((with_reducible refine gate_callee (f := 28) rfl ?_); refine goesL_ (some 164) rfl rfl Try.func28 (by kernel_rfl) rfl #[.string (((⟨#[103]⟩ : ByteArray) ++ t414) ++ t415)] rfl (by (try simp only [List.map_toArray, List.map_cons, List.map_nil]); first | done | rfl | (simp only [List.length_drop, List.length_take]; rfl)) ?_; (with_reducible refine (letterlockref3_Right.calls k5 (((⟨#[103]⟩ : ByteArray) ++ t414) ++ t415) true _ A60.out).mono ?_); rintro e w69 ⟨rfl, hb⟩; refine ⟨_, rfl, ?_⟩; have n0_ := Aside0.mk (below_step (by repeat (first | (with_reducible first | exact HB.out | apply below_alloc | apply pw_below_drewN | apply below_drew1) | exact HB.out)) hb); clear HB; have HB := n0_; clear n0_; (try clear hb); (try clear hb2); (try clear hk); (try clear hi)))
                                          go_ret
                                          exact ⟨by first | rfl | (simp [errW_none, errW_some] <;> rfl) | (simp [*, errW_none, errW_some] <;> rfl), by repeat (first | (with_reducible first | exact HB.out | apply below_alloc | apply pw_below_drewN | apply below_drew1) | exact HB.out)⟩
                                      · replace c61 := Bool.eq_false_iff.mpr c61
                                        subst c61
                                        have H1 : (if t422 = 10 then (some (t421.toList == ([] : List UInt8))) else (some false)) = some r := by rw [if_neg (show ¬ (false = true) by decide)] at H; exact H
                                        clear H
                                        have H := H1
                                        clear H1
                                        by_cases c70 : t422 = 10
                                        · rw [if_pos c70] at H
                                          have c70b0 : (t422 == 10) = true := beq_iff_eq.mpr c70
                                          have c70b1 : (t422 != 10) = false := bne_eq_false_iff_eq.mpr c70
                                          clear c70
                                          obtain rfl := Option.some.inj H
                                          go_wp2_with (first | ((with_reducible refine gate_callee (f := 26) rfl ?_); refine goesL_ (some 115) rfl rfl Try.func26 (by kernel_rfl) rfl #[.int .i64 a3, .int .i64 45] rfl (by (try simp only [List.map_toArray, List.map_cons, List.map_nil]); first | done | rfl | (simp only [List.length_drop, List.length_take]; rfl)) ?_; (with_reducible refine (letterlocklaw3_pick.calls a3 45 t420 _ A45.out).mono ?_); rintro e w' ⟨rfl, ⟨nd, rfl⟩⟩; refine ⟨_, rfl, ?_⟩) | ((with_reducible refine gate_callee (f := 14) rfl ?_); refine goesL_ (some 157) rfl rfl Try.func14 (by kernel_rfl) rfl #[.string t414, .string t415] rfl (by (try simp only [List.map_toArray, List.map_cons, List.map_nil]); first | done | rfl | (simp only [List.length_drop, List.length_take]; rfl)) ?_; (with_reducible refine (term_Sign.calls t414 t415 t421 t422 _ A57.out).mono ?_); rintro e w71 ⟨rfl, hb⟩; refine ⟨_, rfl, ?_⟩; have n0_ := Aside0.mk (below_step (by repeat (first | (with_reducible first | exact HB.out | apply below_alloc | apply pw_below_drewN | apply below_drew1) | exact HB.out)) hb); clear HB; have HB := n0_; clear n0_; (try clear hb); (try clear hb2); (try clear hk); (try clear hi)) | ((with_reducible refine gate_callee (f := 28) rfl ?_); refine goesL_ (some 164) rfl rfl Try.func28 (by kernel_rfl) rfl #[.string (((⟨#[103]⟩ : ByteArray) ++ t414) ++ t415)] rfl (by (try simp only [List.map_toArray, List.map_cons, List.map_nil]); first | done | rfl | (simp only [List.length_drop, List.length_take]; rfl)) ?_; (with_reducible refine (letterlockref3_Right.calls k5 (((⟨#[103]⟩ : ByteArray) ++ t414) ++ t415) false _ A60.out).mono ?_); rintro e w72 ⟨rfl, hb⟩; refine ⟨_, rfl, ?_⟩; have n0_ := Aside0.mk (below_step (by repeat (first | (with_reducible first | exact HB.out | apply below_alloc | apply pw_below_drewN | apply below_drew1) | exact HB.out)) hb); clear HB; have HB := n0_; clear n0_; (try clear hb); (try clear hb2); (try clear hk); (try clear hi)))
                                          go_ret
                                          exact ⟨by first | rfl | (simp [errW_none, errW_some] <;> rfl) | (simp [*, errW_none, errW_some] <;> rfl), by repeat (first | (with_reducible first | exact HB.out | apply below_alloc | apply pw_below_drewN | apply below_drew1) | exact HB.out)⟩
                                        · rw [if_neg c70] at H
                                          have c70b0 : (t422 == 10) = false := beq_eq_false_iff_ne.mpr c70
                                          have c70b1 : (t422 != 10) = true := bne_iff_ne.mpr c70
                                          obtain rfl := Option.some.inj H
                                          go_wp2_with (first | ((with_reducible refine gate_callee (f := 26) rfl ?_); refine goesL_ (some 115) rfl rfl Try.func26 (by kernel_rfl) rfl #[.int .i64 a3, .int .i64 45] rfl (by (try simp only [List.map_toArray, List.map_cons, List.map_nil]); first | done | rfl | (simp only [List.length_drop, List.length_take]; rfl)) ?_; (with_reducible refine (letterlocklaw3_pick.calls a3 45 t420 _ A45.out).mono ?_); rintro e w' ⟨rfl, ⟨nd, rfl⟩⟩; refine ⟨_, rfl, ?_⟩) | ((with_reducible refine gate_callee (f := 14) rfl ?_); refine goesL_ (some 157) rfl rfl Try.func14 (by kernel_rfl) rfl #[.string t414, .string t415] rfl (by (try simp only [List.map_toArray, List.map_cons, List.map_nil]); first | done | rfl | (simp only [List.length_drop, List.length_take]; rfl)) ?_; (with_reducible refine (term_Sign.calls t414 t415 t421 t422 _ A57.out).mono ?_); rintro e w73 ⟨rfl, hb⟩; refine ⟨_, rfl, ?_⟩; have n0_ := Aside0.mk (below_step (by repeat (first | (with_reducible first | exact HB.out | apply below_alloc | apply pw_below_drewN | apply below_drew1) | exact HB.out)) hb); clear HB; have HB := n0_; clear n0_; (try clear hb); (try clear hb2); (try clear hk); (try clear hi)) | ((with_reducible refine gate_callee (f := 28) rfl ?_); refine goesL_ (some 164) rfl rfl Try.func28 (by kernel_rfl) rfl #[.string (((⟨#[103]⟩ : ByteArray) ++ t414) ++ t415)] rfl (by (try simp only [List.map_toArray, List.map_cons, List.map_nil]); first | done | rfl | (simp only [List.length_drop, List.length_take]; rfl)) ?_; (with_reducible refine (letterlockref3_Right.calls k5 (((⟨#[103]⟩ : ByteArray) ++ t414) ++ t415) false _ A60.out).mono ?_); rintro e w74 ⟨rfl, hb⟩; refine ⟨_, rfl, ?_⟩; have n0_ := Aside0.mk (below_step (by repeat (first | (with_reducible first | exact HB.out | apply below_alloc | apply pw_below_drewN | apply below_drew1) | exact HB.out)) hb); clear HB; have HB := n0_; clear n0_; (try clear hb); (try clear hb2); (try clear hk); (try clear hi)))
                                          go_ret
                                          exact ⟨by first | rfl | (simp [errW_none, errW_some] <;> rfl) | (simp [*, errW_none, errW_some] <;> rfl), by repeat (first | (with_reducible first | exact HB.out | apply below_alloc | apply pw_below_drewN | apply below_drew1) | exact HB.out)⟩
                                    · rw [if_neg c59] at H
                                      exact absurd H (by simp)
                                  · rw [if_neg c58] at H
                                    exact absurd H (by simp)
  · replace c6 := Bool.eq_false_iff.mpr c6
    subst c6
    have H1 : (some false) = some r := by rw [if_neg (show ¬ (false = true) by decide)] at H; exact H
    clear H
    have H := H1
    clear H1
    obtain rfl := Option.some.inj H
    go_enter Try.func7, Try.ntmps7
    go_wp2_with (first | ((with_reducible refine gate_callee (f := 10) rfl ?_); refine goesL_ (some 27) rfl rfl Try.func10 (by kernel_rfl) rfl #[] rfl (by (try simp only [List.map_toArray, List.map_cons, List.map_nil]); first | done | rfl | (simp only [List.length_drop, List.length_take]; rfl)) ?_; (with_reducible refine (letterlocklaw3_shown.calls k  false _ A5.out).mono ?_); rintro e w75 ⟨rfl, hb⟩; refine ⟨_, rfl, ?_⟩; have n0_ := Aside0.mk (below_step (by repeat (first | (with_reducible first | exact HB.out | apply below_alloc | apply pw_below_drewN | apply below_drew1) | exact HB.out)) hb); clear HB; have HB := n0_; clear n0_; (try clear hb); (try clear hb2); (try clear hk); (try clear hi)))
    go_ret
    exact ⟨by first | rfl | (simp [errW_none, errW_some] <;> rfl) | (simp [*, errW_none, errW_some] <;> rfl), by repeat (first | (with_reducible first | exact HB.out | apply below_alloc | apply pw_below_drewN | apply below_drew1) | exact HB.out)⟩

/-- THE ONE PURE STATEMENT of letterlocklaw3_TermSize: yours. -/
def letterlocklaw3_TermSize.Pure : Prop := ∀ (l0 : List Int) (l1 : List Int) (a2 : Int) (a3 : Int), l0.length ≤ maxLen → l0.length * 8 ≤ 140737488351232 → (∀ x ∈ l0, (Lit.int .i64 x).wf = true) → l1.length ≤ maxLen → l1.length * 8 ≤ 140737488351232 → (∀ x ∈ l1, (Lit.int .i64 x).wf = true) → (Lit.int .i64 a2).wf = true → (Lit.int .i64 a3).wf = true → ∃ k, letterlocklaw3_TermSize.f k l0 l1 a2 a3 = some true
theorem letterlocklaw3_TermSize.walk (P : letterlocklaw3_TermSize.Pure) (a0 : Option Addr) (len0 cap0 : Nat) (z0 : List Int) (a1 : Option Addr) (len1 cap1 : Nat) (z1 : List Int) (a2 : Int) (a3 : Int) (w : World) (w0 : (a0 = none ∧ len0 = 0 ∧ cap0 = 0 ∧ z0 = []) ∨ ∃ x, a0 = some x ∧ len0 ≤ cap0 ∧ cap0 ≤ maxLen ∧ z0.length = cap0 ∧ (∀ i, i < z0.length → w.cell? (x.add i) = some (.int .i64 (z0.getD i 0))) ∧ ∀ n ∈ z0, (Lit.int .i64 n).wf = true) (y0 : len0 * 8 ≤ 140737488351232) (w1 : (a1 = none ∧ len1 = 0 ∧ cap1 = 0 ∧ z1 = []) ∨ ∃ x, a1 = some x ∧ len1 ≤ cap1 ∧ cap1 ≤ maxLen ∧ z1.length = cap1 ∧ (∀ i, i < z1.length → w.cell? (x.add i) = some (.int .i64 (z1.getD i 0))) ∧ ∀ n ∈ z1, (Lit.int .i64 n).wf = true) (y1 : len1 * 8 ≤ 140737488351232) (w2 : (Lit.int .i64 a2).wf = true) (w3 : (Lit.int .i64 a3).wf = true) :
    Calls Try.prog 7 #[.slice a0 len0 cap0, .slice a1 len1 cap1, .int .i64 a2, .int .i64 a3] w fun e w' => e = .returned (.bool true) ∧ Below w.heap.size w w' := by
  obtain ⟨l0, rfl, hr0, hm0, hw0, hc0⟩ := ReadsInt.ofRowC w0
  obtain ⟨l1, rfl, hr1, hm1, hw1, hc1⟩ := ReadsInt.ofRowC w1
  obtain ⟨k, h⟩ := P l0 l1 a2 a3 hm0 y0 hw0 hm1 y1 hw1 w2 w3
  refine (letterlocklaw3_TermSize.calls k _ _ l0 _ _ l1 a2 a3 true w (Kd.C_of_reads (d := (0 : Int)) (h1 := fun _ => rfl) hr0) hc0 (Kd.C_of_reads (d := (0 : Int)) (h1 := fun _ => rfl) hr1) hc1 h).mono ?_
  rintro e w' ⟨rfl, hd⟩
  exact ⟨rfl, hd⟩

end Go.Proofs.Ytfkkmagiobfeiaa.P
