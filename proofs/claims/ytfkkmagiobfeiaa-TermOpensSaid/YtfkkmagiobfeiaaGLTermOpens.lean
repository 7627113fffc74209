/- Printed for this claim by wip/myprint.py out of the translation: Lean functions with the answers of the Go functions, and proofs that the Go code comes to them. Lean checks it. -/
import Derived.Test.YtfkkmagiobfeiaaG0
import Derived.Test.YtfkkmagiobfeiaaGLaw3
import Derived.Test.YtfkkmagiobfeiaaGTerm
import Derived.Test.YtfkkmagiobfeiaaXTerm
namespace Go.Proofs.Ytfkkmagiobfeiaa.P
open Go.RowKit Go.Proofs.YtfkkmagiobfeiaaW.PrintWords Go.Proofs.YtfkkmagiobfeiaaW.PrintLast Go.Proofs.YtfkkmagiobfeiaaW.PrintMore
attribute [local go_sem] max2_int min2_int max_two min_two max_three min_three max_four min_four   -- for this text's walks alone
set_option linter.unusedVariables false
set_option linter.unusedSimpArgs false

/-! ### letterlocklaw3_TermOpens: function 4 -/
mutual
def letterlocklaw3_TermOpens.j0 : Nat → ByteArray → ByteArray → ByteArray → ByteArray → Int → ByteArray → Bool → Option (Bool)
  | 0, _, _, _, _, _, _, _ => none
  | k + 1, x8, x9, x10, x11, x12, x13, x49 => if x49 = true then (if x12 = 0 then (some true) else (some (x12 == 10))) else ((term_Open.f x8 x11).bind fun bt274 => ((term_Open.f x9 x11).bind fun bt276 => (if bt274.2 = 0 then (if bt274.1.toList = x10.toList then (if ((bt276.2 == 0) != (x9.toList == x8.toList)) = true then (letterlocklaw3_TermOpens.j1 k x8 x9 x10 x13 true) else (if bt276.2 = 0 then (letterlocklaw3_TermOpens.j1 k x8 x9 x10 x13 false) else (if bt276.2 = 6 then (letterlocklaw3_TermOpens.j1 k x8 x9 x10 x13 (bt276.1.toList != ([] : List UInt8))) else (letterlocklaw3_TermOpens.j1 k x8 x9 x10 x13 true)))) else (letterlocklaw3_TermOpens.j1 k x8 x9 x10 x13 true)) else (letterlocklaw3_TermOpens.j1 k x8 x9 x10 x13 true))))
def letterlocklaw3_TermOpens.j1 : Nat → ByteArray → ByteArray → ByteArray → ByteArray → Bool → Option (Bool)
  | 0, _, _, _, _, _ => none
  | k + 1, x8, x9, x10, x13, x94 => if x94 = true then (some false) else ((term_Box.f x13 x10).bind fun bt278 => ((term_Sign.f x8 x10).bind fun bt280 => (if bt278.2 = 0 then (letterlocklaw3_TermOpens.j2 k x8 x9 x10 bt278.2 x13 bt280.2 bt278.1 bt280.1 (bt280.2 != 0)) else (letterlocklaw3_TermOpens.j2 k x8 x9 x10 bt278.2 x13 bt280.2 bt278.1 bt280.1 true))))
def letterlocklaw3_TermOpens.j2 : Nat → ByteArray → ByteArray → ByteArray → Int → ByteArray → Int → ByteArray → ByteArray → Bool → Option (Bool)
  | 0, _, _, _, _, _, _, _, _, _ => none
  | k + 1, x8, x9, x10, x12, x13, x14, x19, x20, x112 => if x112 = true then (if x12 = 10 then (some true) else (some (x14 == 10))) else ((term_Unbox.f x8 x19).bind fun bt282 => ((term_Unbox.f x9 x19).bind fun bt284 => (if bt282.2 = 0 then (if bt282.1.toList = x10.toList then (if ((bt284.2 == 0) != (x9.toList == x8.toList)) = true then (letterlocklaw3_TermOpens.j3 k x8 x9 x10 x13 x20 true) else (if bt284.2 = 0 then (letterlocklaw3_TermOpens.j3 k x8 x9 x10 x13 x20 false) else (if bt284.2 = 6 then (letterlocklaw3_TermOpens.j3 k x8 x9 x10 x13 x20 (bt284.1.toList != ([] : List UInt8))) else (letterlocklaw3_TermOpens.j3 k x8 x9 x10 x13 x20 true)))) else (letterlocklaw3_TermOpens.j3 k x8 x9 x10 x13 x20 true)) else (letterlocklaw3_TermOpens.j3 k x8 x9 x10 x13 x20 true))))
def letterlocklaw3_TermOpens.j3 : Nat → ByteArray → ByteArray → ByteArray → ByteArray → ByteArray → Bool → Option (Bool)
  | 0, _, _, _, _, _, _ => none
  | k + 1, x8, x9, x10, x13, x20, x157 => if x157 = true then (some false) else ((term_OfPublic.f x9).bind fun bt286 => ((term_Verify.f bt286.1 x10 x20).bind fun t288 => ((term_Verify.f x13 x10 x20).bind fun t289 => (if t289 = 0 then (if bt286.2 = 0 then (if ((t288 == 0) == (x9.toList == x8.toList)) = true then (if t288 = 0 then ((term_Verify.f x13 x9 x20).bind fun t290 => (some ((t290 == 0) == (x9.toList == x10.toList)))) else (if t288 = 7 then ((term_Verify.f x13 x9 x20).bind fun t291 => (some ((t291 == 0) == (x9.toList == x10.toList)))) else (some false))) else (some false)) else ((term_Verify.f x13 x9 x20).bind fun t292 => (some ((t292 == 0) == (x9.toList == x10.toList))))) else (some false)))))
end
def letterlocklaw3_TermOpens.f (k : Nat) (l0 : List Int) (l1 : List Int) (l2 : List Int) : Option (Bool) := (letterlocklaw3_shown.f k).bind fun t266 => (if t266 = true then ((letterlocklaw3_grown.f k l0).bind fun t267 => ((letterlocklaw3_grown.f k l1).bind fun t268 => ((letterlocklaw3_grown.f k l2).bind fun t269 => ((term_Seal.f t267 t269).bind fun bt270 => ((term_OfPublic.f t267).bind fun bt272 => (if bt270.2 = 0 then (letterlocklaw3_TermOpens.j0 k t267 t268 t269 bt270.1 bt270.2 bt272.1 (bt272.2 != 0)) else (letterlocklaw3_TermOpens.j0 k t267 t268 t269 bt270.1 bt270.2 bt272.1 true))))))) else (some false))
theorem letterlocklaw3_TermOpens.mono_l : ∀ k, (∀ y0 y1 y2 y3 y4 y5 y6, LeO (letterlocklaw3_TermOpens.j0 k y0 y1 y2 y3 y4 y5 y6) (letterlocklaw3_TermOpens.j0 (k + 1) y0 y1 y2 y3 y4 y5 y6)) ∧ (∀ y0 y1 y2 y3 y4, LeO (letterlocklaw3_TermOpens.j1 k y0 y1 y2 y3 y4) (letterlocklaw3_TermOpens.j1 (k + 1) y0 y1 y2 y3 y4)) ∧ (∀ y0 y1 y2 y3 y4 y5 y6 y7 y8, LeO (letterlocklaw3_TermOpens.j2 k y0 y1 y2 y3 y4 y5 y6 y7 y8) (letterlocklaw3_TermOpens.j2 (k + 1) y0 y1 y2 y3 y4 y5 y6 y7 y8)) ∧ (∀ y0 y1 y2 y3 y4 y5, LeO (letterlocklaw3_TermOpens.j3 k y0 y1 y2 y3 y4 y5) (letterlocklaw3_TermOpens.j3 (k + 1) y0 y1 y2 y3 y4 y5))
  | 0 => ⟨fun _ _ _ _ _ _ _ r h => by simp [letterlocklaw3_TermOpens.j0] at h, fun _ _ _ _ _ r h => by simp [letterlocklaw3_TermOpens.j1] at h, fun _ _ _ _ _ _ _ _ _ r h => by simp [letterlocklaw3_TermOpens.j2] at h, fun _ _ _ _ _ _ r h => by simp [letterlocklaw3_TermOpens.j3] at h⟩
  | k + 1 => by
    obtain ⟨ih0, ih1, ih2, ih3⟩ := letterlocklaw3_TermOpens.mono_l k
    refine ⟨?_, ?_, ?_, ?_⟩
    · intro y0 y1 y2 y3 y4 y5 y6
      unfold letterlocklaw3_TermOpens.j0
      repeat' first
      | (with_reducible exact ih0 _ _ _ _ _ _ _)
      | (with_reducible exact ih1 _ _ _ _ _)
      | (with_reducible exact ih2 _ _ _ _ _ _ _ _ _)
      | (with_reducible exact ih3 _ _ _ _ _ _)
      | (with_reducible exact letterlocklaw3_grown.mono _ _)
      | (with_reducible exact letterlocklaw3_shown.mono _)
      | (with_reducible exact LeO.refl _)
      | (with_reducible exact LeO.none _)
      | (with_reducible refine LeO.ite ?_ ?_)
      | (with_reducible refine LeO.bind ?_ (fun _ => ?_))
      | exact ih0 _ _ _ _ _ _ _
      | exact ih1 _ _ _ _ _
      | exact ih2 _ _ _ _ _ _ _ _ _
      | exact ih3 _ _ _ _ _ _
      | exact letterlocklaw3_grown.mono _ _
      | exact letterlocklaw3_shown.mono _
      | exact LeO.none _
      | refine LeO.ite ?_ ?_
      | refine LeO.bind ?_ (fun _ => ?_)
    · intro y0 y1 y2 y3 y4
      unfold letterlocklaw3_TermOpens.j1
      repeat' first
      | (with_reducible exact ih0 _ _ _ _ _ _ _)
      | (with_reducible exact ih1 _ _ _ _ _)
      | (with_reducible exact ih2 _ _ _ _ _ _ _ _ _)
      | (with_reducible exact ih3 _ _ _ _ _ _)
      | (with_reducible exact letterlocklaw3_grown.mono _ _)
      | (with_reducible exact letterlocklaw3_shown.mono _)
      | (with_reducible exact LeO.refl _)
      | (with_reducible exact LeO.none _)
      | (with_reducible refine LeO.ite ?_ ?_)
      | (with_reducible refine LeO.bind ?_ (fun _ => ?_))
      | exact ih0 _ _ _ _ _ _ _
      | exact ih1 _ _ _ _ _
      | exact ih2 _ _ _ _ _ _ _ _ _
      | exact ih3 _ _ _ _ _ _
      | exact letterlocklaw3_grown.mono _ _
      | exact letterlocklaw3_shown.mono _
      | exact LeO.none _
      | refine LeO.ite ?_ ?_
      | refine LeO.bind ?_ (fun _ => ?_)
    · intro y0 y1 y2 y3 y4 y5 y6 y7 y8
      unfold letterlocklaw3_TermOpens.j2
      repeat' first
      | (with_reducible exact ih0 _ _ _ _ _ _ _)
      | (with_reducible exact ih1 _ _ _ _ _)
      | (with_reducible exact ih2 _ _ _ _ _ _ _ _ _)
      | (with_reducible exact ih3 _ _ _ _ _ _)
      | (with_reducible exact letterlocklaw3_grown.mono _ _)
      | (with_reducible exact letterlocklaw3_shown.mono _)
      | (with_reducible exact LeO.refl _)
      | (with_reducible exact LeO.none _)
      | (with_reducible refine LeO.ite ?_ ?_)
      | (with_reducible refine LeO.bind ?_ (fun _ => ?_))
      | exact ih0 _ _ _ _ _ _ _
      | exact ih1 _ _ _ _ _
      | exact ih2 _ _ _ _ _ _ _ _ _
      | exact ih3 _ _ _ _ _ _
      | exact letterlocklaw3_grown.mono _ _
      | exact letterlocklaw3_shown.mono _
      | exact LeO.none _
      | refine LeO.ite ?_ ?_
      | refine LeO.bind ?_ (fun _ => ?_)
    · intro y0 y1 y2 y3 y4 y5
      unfold letterlocklaw3_TermOpens.j3
      repeat' first
      | (with_reducible exact ih0 _ _ _ _ _ _ _)
      | (with_reducible exact ih1 _ _ _ _ _)
      | (with_reducible exact ih2 _ _ _ _ _ _ _ _ _)
      | (with_reducible exact ih3 _ _ _ _ _ _)
      | (with_reducible exact letterlocklaw3_grown.mono _ _)
      | (with_reducible exact letterlocklaw3_shown.mono _)
      | (with_reducible exact LeO.refl _)
      | (with_reducible exact LeO.none _)
      | (with_reducible refine LeO.ite ?_ ?_)
      | (with_reducible refine LeO.bind ?_ (fun _ => ?_))
      | exact ih0 _ _ _ _ _ _ _
      | exact ih1 _ _ _ _ _
      | exact ih2 _ _ _ _ _ _ _ _ _
      | exact ih3 _ _ _ _ _ _
      | exact letterlocklaw3_grown.mono _ _
      | exact letterlocklaw3_shown.mono _
      | exact LeO.none _
      | refine LeO.ite ?_ ?_
      | refine LeO.bind ?_ (fun _ => ?_)
theorem letterlocklaw3_TermOpens.mono : ∀ a0 a1 a2 k, LeO (letterlocklaw3_TermOpens.f k a0 a1 a2) (letterlocklaw3_TermOpens.f (k + 1) a0 a1 a2) := by
  intro a0 a1 a2 k
  obtain ⟨ih0, ih1, ih2, ih3⟩ := letterlocklaw3_TermOpens.mono_l k
  unfold letterlocklaw3_TermOpens.f
  repeat' first
      | (with_reducible exact ih0 _ _ _ _ _ _ _)
      | (with_reducible exact ih1 _ _ _ _ _)
      | (with_reducible exact ih2 _ _ _ _ _ _ _ _ _)
      | (with_reducible exact ih3 _ _ _ _ _ _)
      | (with_reducible exact letterlocklaw3_grown.mono _ _)
      | (with_reducible exact letterlocklaw3_shown.mono _)
      | (with_reducible exact LeO.refl _)
      | (with_reducible exact LeO.none _)
      | (with_reducible refine LeO.ite ?_ ?_)
      | (with_reducible refine LeO.bind ?_ (fun _ => ?_))
      | exact ih0 _ _ _ _ _ _ _
      | exact ih1 _ _ _ _ _
      | exact ih2 _ _ _ _ _ _ _ _ _
      | exact ih3 _ _ _ _ _ _
      | exact letterlocklaw3_grown.mono _ _
      | exact letterlocklaw3_shown.mono _
      | exact LeO.none _
      | refine LeO.ite ?_ ?_
      | refine LeO.bind ?_ (fun _ => ?_)
set_option maxHeartbeats 8000000 in
set_option maxRecDepth 100000 in
theorem letterlocklaw3_TermOpens.calls (k : Nat) (A0 : Option Addr) (c0 : Nat) (l0 : List Int) (A1 : Option Addr) (c1 : Nat) (l1 : List Int) (A2 : Option Addr) (c2 : Nat) (l2 : List Int) (r : Bool) (w : World) (hr0 : Kd.C (Kd.int .i64) w A0 l0.length l0) (hc0 : l0.length ≤ c0) (hr1 : Kd.C (Kd.int .i64) w A1 l1.length l1) (hc1 : l1.length ≤ c1) (hr2 : Kd.C (Kd.int .i64) w A2 l2.length l2) (hc2 : l2.length ≤ c2) (h : letterlocklaw3_TermOpens.f k l0 l1 l2 = some r) :
    Calls Try.prog 4 #[.slice A0 l0.length c0, .slice A1 l1.length c1, .slice A2 l2.length c2] w fun e w' => e = .returned (.bool r) ∧ Below w.heap.size w w' := by
  have HR0 := Aside0.mk hr0
  have HC0 := Aside0.mk hc0
  clear hr0 hc0
  have HR1 := Aside0.mk hr1
  have HC1 := Aside0.mk hc1
  clear hr1 hc1
  have HR2 := Aside0.mk hr2
  have HC2 := Aside0.mk hc2
  clear hr2 hc2
  have HB := Aside0.mk (Below.refl w.heap.size w)
  have H : ((letterlocklaw3_shown.f k).bind fun t266 => (if t266 = true then ((letterlocklaw3_grown.f k l0).bind fun t267 => ((letterlocklaw3_grown.f k l1).bind fun t268 => ((letterlocklaw3_grown.f k l2).bind fun t269 => ((term_Seal.f t267 t269).bind fun bt270 => ((term_OfPublic.f t267).bind fun bt272 => (if bt270.2 = 0 then (letterlocklaw3_TermOpens.j0 k t267 t268 t269 bt270.1 bt270.2 bt272.1 (bt272.2 != 0)) else (letterlocklaw3_TermOpens.j0 k t267 t268 t269 bt270.1 bt270.2 bt272.1 true))))))) else (some false))) = some r := h
  clear h
  replace H := Option.bind_eq_some_iff.mp H
  obtain ⟨t266, A40, H⟩ := H
  replace H : (if t266 = true then ((letterlocklaw3_grown.f k l0).bind fun t267 => ((letterlocklaw3_grown.f k l1).bind fun t268 => ((letterlocklaw3_grown.f k l2).bind fun t269 => ((term_Seal.f t267 t269).bind fun bt270 => ((term_OfPublic.f t267).bind fun bt272 => (if bt270.2 = 0 then (letterlocklaw3_TermOpens.j0 k t267 t268 t269 bt270.1 bt270.2 bt272.1 (bt272.2 != 0)) else (letterlocklaw3_TermOpens.j0 k t267 t268 t269 bt270.1 bt270.2 bt272.1 true))))))) else (some false)) = some r := H
  have A4 := Aside0.mk A40
  clear A40
  by_cases c5 : t266 = true
  · subst c5
    have H1 : ((letterlocklaw3_grown.f k l0).bind fun t267 => ((letterlocklaw3_grown.f k l1).bind fun t268 => ((letterlocklaw3_grown.f k l2).bind fun t269 => ((term_Seal.f t267 t269).bind fun bt270 => ((term_OfPublic.f t267).bind fun bt272 => (if bt270.2 = 0 then (letterlocklaw3_TermOpens.j0 k t267 t268 t269 bt270.1 bt270.2 bt272.1 (bt272.2 != 0)) else (letterlocklaw3_TermOpens.j0 k t267 t268 t269 bt270.1 bt270.2 bt272.1 true))))))) = some r := by rw [if_pos rfl] at H; exact H
    clear H
    have H := H1
    clear H1
    replace H := Option.bind_eq_some_iff.mp H
    obtain ⟨t267, A60, H⟩ := H
    replace H : ((letterlocklaw3_grown.f k l1).bind fun t268 => ((letterlocklaw3_grown.f k l2).bind fun t269 => ((term_Seal.f t267 t269).bind fun bt270 => ((term_OfPublic.f t267).bind fun bt272 => (if bt270.2 = 0 then (letterlocklaw3_TermOpens.j0 k t267 t268 t269 bt270.1 bt270.2 bt272.1 (bt272.2 != 0)) else (letterlocklaw3_TermOpens.j0 k t267 t268 t269 bt270.1 bt270.2 bt272.1 true)))))) = some r := H
    have A6 := Aside0.mk A60
    clear A60
    replace H := Option.bind_eq_some_iff.mp H
    obtain ⟨t268, A70, H⟩ := H
    replace H : ((letterlocklaw3_grown.f k l2).bind fun t269 => ((term_Seal.f t267 t269).bind fun bt270 => ((term_OfPublic.f t267).bind fun bt272 => (if bt270.2 = 0 then (letterlocklaw3_TermOpens.j0 k t267 t268 t269 bt270.1 bt270.2 bt272.1 (bt272.2 != 0)) else (letterlocklaw3_TermOpens.j0 k t267 t268 t269 bt270.1 bt270.2 bt272.1 true))))) = some r := H
    have A7 := Aside0.mk A70
    clear A70
    replace H := Option.bind_eq_some_iff.mp H
    obtain ⟨t269, A80, H⟩ := H
    replace H : ((term_Seal.f t267 t269).bind fun bt270 => ((term_OfPublic.f t267).bind fun bt272 => (if bt270.2 = 0 then (letterlocklaw3_TermOpens.j0 k t267 t268 t269 bt270.1 bt270.2 bt272.1 (bt272.2 != 0)) else (letterlocklaw3_TermOpens.j0 k t267 t268 t269 bt270.1 bt270.2 bt272.1 true)))) = some r := H
    have A8 := Aside0.mk A80
    clear A80
    replace H := Option.bind_eq_some_iff.mp H
    obtain ⟨⟨t270, t271⟩, A90, H⟩ := H
    replace H : ((term_OfPublic.f t267).bind fun bt272 => (if t271 = 0 then (letterlocklaw3_TermOpens.j0 k t267 t268 t269 t270 t271 bt272.1 (bt272.2 != 0)) else (letterlocklaw3_TermOpens.j0 k t267 t268 t269 t270 t271 bt272.1 true))) = some r := H
    have A9 := Aside0.mk A90
    clear A90
    replace H := Option.bind_eq_some_iff.mp H
    obtain ⟨⟨t272, t273⟩, A100, H⟩ := H
    replace H : (if t271 = 0 then (letterlocklaw3_TermOpens.j0 k t267 t268 t269 t270 t271 t272 (t273 != 0)) else (letterlocklaw3_TermOpens.j0 k t267 t268 t269 t270 t271 t272 true)) = some r := H
    have A10 := Aside0.mk A100
    clear A100
    have HC11 := Aside0.mk H
    clear H
    go_enter Try.func4, Try.ntmps4
    go_upto_region 9 with (first | ((with_reducible refine gate_callee (f := 10) rfl ?_); refine goesL_ (some 24) rfl rfl Try.func10 (by kernel_rfl) rfl #[] rfl (by (try simp only [List.map_toArray, List.map_cons, List.map_nil]); first | done | rfl | (simp only [List.length_drop, List.length_take]; rfl)) ?_; (with_reducible refine (letterlocklaw3_shown.calls k  true _ A4.out).mono ?_); rintro e w12 ⟨rfl, hb⟩; refine ⟨_, rfl, ?_⟩; have n0_ := Aside0.mk (below_step (by repeat (first | (with_reducible first | exact HB.out | apply below_alloc | apply pw_below_drewN | apply below_drew1) | exact HB.out)) hb); clear HB; have HB := n0_; clear n0_; (try clear hb); (try clear hb2); (try clear hk); (try clear hi)) | ((with_reducible refine gate_callee (f := 11) rfl ?_); refine goesL_ (some 28) rfl rfl Try.func11 (by kernel_rfl) rfl #[.slice A0 l0.length c0] rfl (by (try simp only [List.map_toArray, List.map_cons, List.map_nil]); first | done | rfl | (simp only [List.length_drop, List.length_take]; rfl)) ?_; (with_reducible refine (letterlocklaw3_grown.calls k _ _ l0 t267 _ ?side1 ?side2 A6.out).mono ?_); (case side1 => repeat (first | exact (Kd.C_below HR0.out HB.out) | (with_reducible refine Kd.C_alloc ?_ _) | (with_reducible refine Kd.C_drewN ?_ _) | (with_reducible refine Kd.C_drew ?_))); (case side2 => exact HC0.out); rintro e w13 ⟨rfl, hb⟩; refine ⟨_, rfl, ?_⟩; have n0_ := Aside0.mk (below_step (by repeat (first | (with_reducible first | exact HB.out | apply below_alloc | apply pw_below_drewN | apply below_drew1) | exact HB.out)) hb); clear HB; have HB := n0_; clear n0_; (try clear hb); (try clear hb2); (try clear hk); (try clear hi)) | ((with_reducible refine gate_callee (f := 11) rfl ?_); refine goesL_ (some 30) rfl rfl Try.func11 (by kernel_rfl) rfl #[.slice A1 l1.length c1] rfl (by (try simp only [List.map_toArray, List.map_cons, List.map_nil]); first | done | rfl | (simp only [List.length_drop, List.length_take]; rfl)) ?_; (with_reducible refine (letterlocklaw3_grown.calls k _ _ l1 t268 _ ?side1 ?side2 A7.out).mono ?_); (case side1 => repeat (first | exact (Kd.C_below HR1.out HB.out) | (with_reducible refine Kd.C_alloc ?_ _) | (with_reducible refine Kd.C_drewN ?_ _) | (with_reducible refine Kd.C_drew ?_))); (case side2 => exact HC1.out); rintro e w14 ⟨rfl, hb⟩; refine ⟨_, rfl, ?_⟩; have n0_ := Aside0.mk (below_step (by repeat (first | (with_reducible first | exact HB.out | apply below_alloc | apply pw_below_drewN | apply below_drew1) | exact HB.out)) hb); clear HB; have HB := n0_; clear n0_; (try clear hb); (try clear hb2); (try clear hk); (try clear hi)) | ((with_reducible refine gate_callee (f := 11) rfl ?_); refine goesL_ (some 32) rfl rfl Try.func11 (by kernel_rfl) rfl #[.slice A2 l2.length c2] rfl (by (try simp only [List.map_toArray, List.map_cons, List.map_nil]); first | done | rfl | (simp only [List.length_drop, List.length_take]; rfl)) ?_; (with_reducible refine (letterlocklaw3_grown.calls k _ _ l2 t269 _ ?side1 ?side2 A8.out).mono ?_); (case side1 => repeat (first | exact (Kd.C_below HR2.out HB.out) | (with_reducible refine Kd.C_alloc ?_ _) | (with_reducible refine Kd.C_drewN ?_ _) | (with_reducible refine Kd.C_drew ?_))); (case side2 => exact HC2.out); rintro e w15 ⟨rfl, hb⟩; refine ⟨_, rfl, ?_⟩; have n0_ := Aside0.mk (below_step (by repeat (first | (with_reducible first | exact HB.out | apply below_alloc | apply pw_below_drewN | apply below_drew1) | exact HB.out)) hb); clear HB; have HB := n0_; clear n0_; (try clear hb); (try clear hb2); (try clear hk); (try clear hi)) | ((with_reducible refine gate_callee (f := 13) rfl ?_); refine goesL_ (some 36) rfl rfl Try.func13 (by kernel_rfl) rfl #[.string t267, .string t269] rfl (by (try simp only [List.map_toArray, List.map_cons, List.map_nil]); first | done | rfl | (simp only [List.length_drop, List.length_take]; rfl)) ?_; (with_reducible refine (term_Seal.calls t267 t269 t270 t271 _ A9.out).mono ?_); rintro e w16 ⟨rfl, hb⟩; refine ⟨_, rfl, ?_⟩; have n0_ := Aside0.mk (below_step (by repeat (first | (with_reducible first | exact HB.out | apply below_alloc | apply pw_below_drewN | apply below_drew1) | exact HB.out)) hb); clear HB; have HB := n0_; clear n0_; (try clear hb); (try clear hb2); (try clear hk); (try clear hi)) | ((with_reducible refine gate_callee (f := 16) rfl ?_); refine goesL_ (some 41) rfl rfl Try.func16 (by kernel_rfl) rfl #[.string t267] rfl (by (try simp only [List.map_toArray, List.map_cons, List.map_nil]); first | done | rfl | (simp only [List.length_drop, List.length_take]; rfl)) ?_; (with_reducible refine (term_OfPublic.calls t267 t272 t273 _ A10.out).mono ?_); rintro e w17 ⟨rfl, hb⟩; refine ⟨_, rfl, ?_⟩; have n0_ := Aside0.mk (below_step (by repeat (first | (with_reducible first | exact HB.out | apply below_alloc | apply pw_below_drewN | apply below_drew1) | exact HB.out)) hb); clear HB; have HB := n0_; clear n0_; (try clear hb); (try clear hb2); (try clear hk); (try clear hi)))
    (try simp only [Act.put, List.setIfInBounds_toArray, List.set_cons_zero, List.set_cons_succ])
    go_cut [49] (fun v49 wc => ∃ (kq : Nat) (x49_10 : Bool), v49 = .bool x49_10 ∧ Aside0 (letterlocklaw3_TermOpens.j0 kq t267 t268 t269 t270 t271 t272 x49_10 = some r) ∧ Aside0 (kq ≤ k) ∧ Aside0 (Below w.heap.size w wc))
    case first => as_aux_lemma =>
      have H := HC11.out
      clear HC11
      by_cases c18 : t271 = 0
      · rw [if_pos c18] at H
        have c18b0 : (t271 == 0) = true := beq_iff_eq.mpr c18
        have c18b1 : (t271 != 0) = false := bne_eq_false_iff_eq.mpr c18
        clear c18
        (first | rw [c18b0] | (simp only [i64_w, i32_w]; rw [c18b0]) | skip)
        have H' := Aside0.mk H
        clear H
        go_wp2
        go_meet
        case rel => exact ⟨_, ((t273 != 0)), (by first | rfl | (simp; done) | (simp [*]; done) | (simp; exact isEmpty_ne _)), H', ⟨by first | omega | exact Nat.le_refl _⟩, ⟨by repeat (first | (with_reducible first | exact HB.out | apply below_alloc | apply pw_below_drewN | apply below_drew1) | exact HB.out)⟩⟩
      · rw [if_neg c18] at H
        have c18b0 : (t271 == 0) = false := beq_eq_false_iff_ne.mpr c18
        have c18b1 : (t271 != 0) = true := bne_iff_ne.mpr c18
        (first | rw [c18b0] | (simp only [i64_w, i32_w]; rw [c18b0]) | skip)
        have H' := Aside0.mk H
        clear H
        go_wp2
        go_meet
        case rel => exact ⟨_, (true), (by first | rfl | (simp; done) | (simp [*]; done) | (simp; exact isEmpty_ne _)), H', ⟨by first | omega | exact Nat.le_refl _⟩, ⟨by repeat (first | (with_reducible first | exact HB.out | apply below_alloc | apply pw_below_drewN | apply below_drew1) | exact HB.out)⟩⟩
    case rest => as_aux_lemma =>
      clear HC11
      try clear c1
      try clear c2
      try clear p2
      try clear c4
      try clear c5
      try clear c10
      try clear c11
      try clear c13
      try clear c16
      try clear c18
      try clear c18b0
      try clear c18b1
      obtain ⟨kq, x49_10, rfl, HA, HJ10, HB⟩ := hcut
      cases kq with
      | zero => exact absurd HA.out (by simp [letterlocklaw3_TermOpens.j0])
      | succ kj10 =>
        have H := HA.out
        clear HA
        simp only [letterlocklaw3_TermOpens.j0] at H
        by_cases c19 : x49_10 = true
        · subst c19
          have H1 : (if t271 = 0 then (some true) else (some (t271 == 10))) = some r := by rw [if_pos rfl] at H; exact H
          clear H
          have H := H1
          clear H1
          by_cases c20 : t271 = 0
          · rw [if_pos c20] at H
            have c20b0 : (t271 == 0) = true := beq_iff_eq.mpr c20
            have c20b1 : (t271 != 0) = false := bne_eq_false_iff_eq.mpr c20
            clear c20
            obtain rfl := Option.some.inj H
            go_wp2
            go_ret
            exact ⟨by first | rfl | (simp [errW_none, errW_some] <;> rfl) | (simp [*, errW_none, errW_some] <;> rfl), by repeat (first | (with_reducible first | exact HB.out | apply below_alloc | apply pw_below_drewN | apply below_drew1) | exact HB.out)⟩
          · rw [if_neg c20] at H
            have c20b0 : (t271 == 0) = false := beq_eq_false_iff_ne.mpr c20
            have c20b1 : (t271 != 0) = true := bne_iff_ne.mpr c20
            obtain rfl := Option.some.inj H
            go_wp2
            go_ret
            exact ⟨by first | rfl | (simp [errW_none, errW_some] <;> rfl) | (simp [*, errW_none, errW_some] <;> rfl), by repeat (first | (with_reducible first | exact HB.out | apply below_alloc | apply pw_below_drewN | apply below_drew1) | exact HB.out)⟩
        · replace c19 := Bool.eq_false_iff.mpr c19
          subst c19
          have H1 : ((term_Open.f t267 t270).bind fun bt274 => ((term_Open.f t268 t270).bind fun bt276 => (if bt274.2 = 0 then (if bt274.1.toList = t269.toList then (if ((bt276.2 == 0) != (t268.toList == t267.toList)) = true then (letterlocklaw3_TermOpens.j1 kj10 t267 t268 t269 t272 true) else (if bt276.2 = 0 then (letterlocklaw3_TermOpens.j1 kj10 t267 t268 t269 t272 false) else (if bt276.2 = 6 then (letterlocklaw3_TermOpens.j1 kj10 t267 t268 t269 t272 (bt276.1.toList != ([] : List UInt8))) else (letterlocklaw3_TermOpens.j1 kj10 t267 t268 t269 t272 true)))) else (letterlocklaw3_TermOpens.j1 kj10 t267 t268 t269 t272 true)) else (letterlocklaw3_TermOpens.j1 kj10 t267 t268 t269 t272 true)))) = some r := by rw [if_neg (show ¬ (false = true) by decide)] at H; exact H
          clear H
          have H := H1
          clear H1
          replace H := Option.bind_eq_some_iff.mp H
          obtain ⟨⟨t274, t275⟩, A210, H⟩ := H
          replace H : ((term_Open.f t268 t270).bind fun bt276 => (if t275 = 0 then (if t274.toList = t269.toList then (if ((bt276.2 == 0) != (t268.toList == t267.toList)) = true then (letterlocklaw3_TermOpens.j1 kj10 t267 t268 t269 t272 true) else (if bt276.2 = 0 then (letterlocklaw3_TermOpens.j1 kj10 t267 t268 t269 t272 false) else (if bt276.2 = 6 then (letterlocklaw3_TermOpens.j1 kj10 t267 t268 t269 t272 (bt276.1.toList != ([] : List UInt8))) else (letterlocklaw3_TermOpens.j1 kj10 t267 t268 t269 t272 true)))) else (letterlocklaw3_TermOpens.j1 kj10 t267 t268 t269 t272 true)) else (letterlocklaw3_TermOpens.j1 kj10 t267 t268 t269 t272 true))) = some r := H
          have A21 := Aside0.mk A210
          clear A210
          replace H := Option.bind_eq_some_iff.mp H
          obtain ⟨⟨t276, t277⟩, A220, H⟩ := H
          replace H : (if t275 = 0 then (if t274.toList = t269.toList then (if ((t277 == 0) != (t268.toList == t267.toList)) = true then (letterlocklaw3_TermOpens.j1 kj10 t267 t268 t269 t272 true) else (if t277 = 0 then (letterlocklaw3_TermOpens.j1 kj10 t267 t268 t269 t272 false) else (if t277 = 6 then (letterlocklaw3_TermOpens.j1 kj10 t267 t268 t269 t272 (t276.toList != ([] : List UInt8))) else (letterlocklaw3_TermOpens.j1 kj10 t267 t268 t269 t272 true)))) else (letterlocklaw3_TermOpens.j1 kj10 t267 t268 t269 t272 true)) else (letterlocklaw3_TermOpens.j1 kj10 t267 t268 t269 t272 true)) = some r := H
          have A22 := Aside0.mk A220
          clear A220
          have HC23 := Aside0.mk H
          clear H
          go_upto_region 13 with (first | ((with_reducible refine gate_callee (f := 17) rfl ?_); refine goesL_ (some 59) rfl rfl Try.func17 (by kernel_rfl) rfl #[.string t267, .string t270] rfl (by (try simp only [List.map_toArray, List.map_cons, List.map_nil]); first | done | rfl | (simp only [List.length_drop, List.length_take]; rfl)) ?_; (with_reducible refine (term_Open.calls t267 t270 t274 t275 _ A21.out).mono ?_); rintro e w24 ⟨rfl, hb⟩; refine ⟨_, rfl, ?_⟩; have n0_ := Aside0.mk (below_step (by repeat (first | (with_reducible first | exact HB.out | apply below_alloc | apply pw_below_drewN | apply below_drew1) | exact HB.out)) hb); clear HB; have HB := n0_; clear n0_; (try clear hb); (try clear hb2); (try clear hk); (try clear hi)) | ((with_reducible refine gate_callee (f := 17) rfl ?_); refine goesL_ (some 65) rfl rfl Try.func17 (by kernel_rfl) rfl #[.string t268, .string t270] rfl (by (try simp only [List.map_toArray, List.map_cons, List.map_nil]); first | done | rfl | (simp only [List.length_drop, List.length_take]; rfl)) ?_; (with_reducible refine (term_Open.calls t268 t270 t276 t277 _ A22.out).mono ?_); rintro e w25 ⟨rfl, hb⟩; refine ⟨_, rfl, ?_⟩; have n0_ := Aside0.mk (below_step (by repeat (first | (with_reducible first | exact HB.out | apply below_alloc | apply pw_below_drewN | apply below_drew1) | exact HB.out)) hb); clear HB; have HB := n0_; clear n0_; (try clear hb); (try clear hb2); (try clear hk); (try clear hi)))
          (try simp only [Act.put, List.setIfInBounds_toArray, List.set_cons_zero, List.set_cons_succ])
          go_cut [94] (fun v94 wc => ∃ (kq : Nat) (x94_22 : Bool), v94 = .bool x94_22 ∧ Aside0 (letterlocklaw3_TermOpens.j1 kq t267 t268 t269 t272 x94_22 = some r) ∧ Aside0 (kq ≤ kj10) ∧ Aside0 (Below w.heap.size w wc))
          case first => as_aux_lemma =>
            have H := HC23.out
            clear HC23
            by_cases c26 : t275 = 0
            · rw [if_pos c26] at H
              have c26b0 : (t275 == 0) = true := beq_iff_eq.mpr c26
              have c26b1 : (t275 != 0) = false := bne_eq_false_iff_eq.mpr c26
              clear c26
              (first | rw [c26b0] | (simp only [i64_w, i32_w]; rw [c26b0]) | skip)
              by_cases c27 : t274.toList = t269.toList
              · rw [if_pos c27] at H
                have c27b0 : (t274.toList == t269.toList) = true := beq_iff_eq.mpr c27
                have c27b1 : (t274.toList != t269.toList) = false := bne_eq_false_iff_eq.mpr c27
                clear c27
                by_cases d15 : t277 = 0
                · have d15b0 : (t277 == 0) = true := beq_iff_eq.mpr d15
                  have d15b1 : (t277 != 0) = false := bne_eq_false_iff_eq.mpr d15
                  clear d15
                  by_cases d16 : t268.toList = t267.toList
                  · have d16b0 : (t268.toList == t267.toList) = true := beq_iff_eq.mpr d16
                    have d16b1 : (t268.toList != t267.toList) = false := bne_eq_false_iff_eq.mpr d16
                    clear d16
                    have c28 : ((t277 == 0) != (t268.toList == t267.toList)) = false := by rw [d15b0, d16b0]; rfl
                    rw [if_neg (by rw [c28]; decide)] at H
                    clear c28
                    have c29 : t277 = 0 := beq_iff_eq.mp d15b0
                    rw [if_pos c29] at H
                    clear c29
                    have H' := Aside0.mk H
                    clear H
                    go_wp2
                    go_meet
                    case rel => exact ⟨_, (false), (by first | rfl | (simp; done) | (simp [*]; done) | (simp; exact isEmpty_ne _)), H', ⟨by have := HJ10.out; first | omega | exact Nat.le_refl _⟩, ⟨by repeat (first | (with_reducible first | exact HB.out | apply below_alloc | apply pw_below_drewN | apply below_drew1) | exact HB.out)⟩⟩
                  · have d16b0 : (t268.toList == t267.toList) = false := beq_eq_false_iff_ne.mpr d16
                    have d16b1 : (t268.toList != t267.toList) = true := bne_iff_ne.mpr d16
                    clear d16
                    have c28 : ((t277 == 0) != (t268.toList == t267.toList)) = true := by rw [d15b0, d16b0]; rfl
                    rw [if_pos c28] at H
                    clear c28
                    have H' := Aside0.mk H
                    clear H
                    go_wp2
                    go_meet
                    case rel => exact ⟨_, (true), (by first | rfl | (simp; done) | (simp [*]; done) | (simp; exact isEmpty_ne _)), H', ⟨by have := HJ10.out; first | omega | exact Nat.le_refl _⟩, ⟨by repeat (first | (with_reducible first | exact HB.out | apply below_alloc | apply pw_below_drewN | apply below_drew1) | exact HB.out)⟩⟩
                · have d15b0 : (t277 == 0) = false := beq_eq_false_iff_ne.mpr d15
                  have d15b1 : (t277 != 0) = true := bne_iff_ne.mpr d15
                  clear d15
                  by_cases d17 : t268.toList = t267.toList
                  · have d17b0 : (t268.toList == t267.toList) = true := beq_iff_eq.mpr d17
                    have d17b1 : (t268.toList != t267.toList) = false := bne_eq_false_iff_eq.mpr d17
                    clear d17
                    have c28 : ((t277 == 0) != (t268.toList == t267.toList)) = true := by rw [d15b0, d17b0]; rfl
                    rw [if_pos c28] at H
                    clear c28
                    have H' := Aside0.mk H
                    clear H
                    go_wp2
                    go_meet
                    case rel => exact ⟨_, (true), (by first | rfl | (simp; done) | (simp [*]; done) | (simp; exact isEmpty_ne _)), H', ⟨by have := HJ10.out; first | omega | exact Nat.le_refl _⟩, ⟨by repeat (first | (with_reducible first | exact HB.out | apply below_alloc | apply pw_below_drewN | apply below_drew1) | exact HB.out)⟩⟩
                  · have d17b0 : (t268.toList == t267.toList) = false := beq_eq_false_iff_ne.mpr d17
                    have d17b1 : (t268.toList != t267.toList) = true := bne_iff_ne.mpr d17
                    clear d17
                    have c28 : ((t277 == 0) != (t268.toList == t267.toList)) = false := by rw [d15b0, d17b0]; rfl
                    rw [if_neg (by rw [c28]; decide)] at H
                    clear c28
                    have c29 : ¬ (t277 = 0) := beq_eq_false_iff_ne.mp d15b0
                    rw [if_neg c29] at H
                    clear c29
                    by_cases c30 : t277 = 6
                    · rw [if_pos c30] at H
                      have c30b0 : (t277 == 6) = true := beq_iff_eq.mpr c30
                      have c30b1 : (t277 != 6) = false := bne_eq_false_iff_eq.mpr c30
                      clear c30
                      have H' := Aside0.mk H
                      clear H
                      go_wp2
                      go_meet
                      case rel => exact ⟨_, ((t276.toList != ([] : List UInt8))), (by first | rfl | (simp; done) | (simp [*]; done) | (simp; exact isEmpty_ne _)), H', ⟨by have := HJ10.out; first | omega | exact Nat.le_refl _⟩, ⟨by repeat (first | (with_reducible first | exact HB.out | apply below_alloc | apply pw_below_drewN | apply below_drew1) | exact HB.out)⟩⟩
                    · rw [if_neg c30] at H
                      have c30b0 : (t277 == 6) = false := beq_eq_false_iff_ne.mpr c30
                      have c30b1 : (t277 != 6) = true := bne_iff_ne.mpr c30
                      have H' := Aside0.mk H
                      clear H
                      go_wp2
                      go_meet
                      case rel => exact ⟨_, (true), (by first | rfl | (simp; done) | (simp [*]; done) | (simp; exact isEmpty_ne _)), H', ⟨by have := HJ10.out; first | omega | exact Nat.le_refl _⟩, ⟨by repeat (first | (with_reducible first | exact HB.out | apply below_alloc | apply pw_below_drewN | apply below_drew1) | exact HB.out)⟩⟩
              · rw [if_neg c27] at H
                have c27b0 : (t274.toList == t269.toList) = false := beq_eq_false_iff_ne.mpr c27
                have c27b1 : (t274.toList != t269.toList) = true := bne_iff_ne.mpr c27
                have H' := Aside0.mk H
                clear H
                go_wp2
                go_meet
                case rel => exact ⟨_, (true), (by first | rfl | (simp; done) | (simp [*]; done) | (simp; exact isEmpty_ne _)), H', ⟨by have := HJ10.out; first | omega | exact Nat.le_refl _⟩, ⟨by repeat (first | (with_reducible first | exact HB.out | apply below_alloc | apply pw_below_drewN | apply below_drew1) | exact HB.out)⟩⟩
            · rw [if_neg c26] at H
              have c26b0 : (t275 == 0) = false := beq_eq_false_iff_ne.mpr c26
              have c26b1 : (t275 != 0) = true := bne_iff_ne.mpr c26
              (first | rw [c26b0] | (simp only [i64_w, i32_w]; rw [c26b0]) | skip)
              have H' := Aside0.mk H
              clear H
              go_wp2
              go_meet
              case rel => exact ⟨_, (true), (by first | rfl | (simp; done) | (simp [*]; done) | (simp; exact isEmpty_ne _)), H', ⟨by have := HJ10.out; first | omega | exact Nat.le_refl _⟩, ⟨by repeat (first | (with_reducible first | exact HB.out | apply below_alloc | apply pw_below_drewN | apply below_drew1) | exact HB.out)⟩⟩
          case rest => as_aux_lemma =>
            clear HC23
            try clear c1
            try clear c2
            try clear p2
            try clear c3
            try clear c4
            try clear c5
            try clear c10
            try clear c11
            try clear c13
            try clear c16
            try clear c17
            try clear c18
            try clear c18b0
            try clear c18b1
            try clear c19
            try clear c20
            try clear c20b0
            try clear c20b1
            try clear c26
            try clear c26b0
            try clear c26b1
            try clear c27
            try clear c27b0
            try clear c27b1
            try clear c28
            try clear c28b0
            try clear c28b1
            try clear c28b2
            try clear c29
            try clear c29b0
            try clear c29b1
            try clear c30
            try clear c30b0
            try clear c30b1
            try clear p2
            obtain ⟨kq, x94_22, rfl, HA, HJ22, HB⟩ := hcut
            cases kq with
            | zero => exact absurd HA.out (by simp [letterlocklaw3_TermOpens.j1])
            | succ kj22 =>
              have H := HA.out
              clear HA
              simp only [letterlocklaw3_TermOpens.j1] at H
              by_cases c31 : x94_22 = true
              · subst c31
                have H1 : (some false) = some r := by rw [if_pos rfl] at H; exact H
                clear H
                have H := H1
                clear H1
                obtain rfl := Option.some.inj H
                go_wp2
                go_ret
                exact ⟨by first | rfl | (simp [errW_none, errW_some] <;> rfl) | (simp [*, errW_none, errW_some] <;> rfl), by repeat (first | (with_reducible first | exact HB.out | apply below_alloc | apply pw_below_drewN | apply below_drew1) | exact HB.out)⟩
              · replace c31 := Bool.eq_false_iff.mpr c31
                subst c31
                have H1 : ((term_Box.f t272 t269).bind fun bt278 => ((term_Sign.f t267 t269).bind fun bt280 => (if bt278.2 = 0 then (letterlocklaw3_TermOpens.j2 kj22 t267 t268 t269 bt278.2 t272 bt280.2 bt278.1 bt280.1 (bt280.2 != 0)) else (letterlocklaw3_TermOpens.j2 kj22 t267 t268 t269 bt278.2 t272 bt280.2 bt278.1 bt280.1 true)))) = some r := by rw [if_neg (show ¬ (false = true) by decide)] at H; exact H
                clear H
                have H := H1
                clear H1
                replace H := Option.bind_eq_some_iff.mp H
                obtain ⟨⟨t278, t279⟩, A320, H⟩ := H
                replace H : ((term_Sign.f t267 t269).bind fun bt280 => (if t279 = 0 then (letterlocklaw3_TermOpens.j2 kj22 t267 t268 t269 t279 t272 bt280.2 t278 bt280.1 (bt280.2 != 0)) else (letterlocklaw3_TermOpens.j2 kj22 t267 t268 t269 t279 t272 bt280.2 t278 bt280.1 true))) = some r := H
                have A32 := Aside0.mk A320
                clear A320
                replace H := Option.bind_eq_some_iff.mp H
                obtain ⟨⟨t280, t281⟩, A330, H⟩ := H
                replace H : (if t279 = 0 then (letterlocklaw3_TermOpens.j2 kj22 t267 t268 t269 t279 t272 t281 t278 t280 (t281 != 0)) else (letterlocklaw3_TermOpens.j2 kj22 t267 t268 t269 t279 t272 t281 t278 t280 true)) = some r := H
                have A33 := Aside0.mk A330
                clear A330
                have HC34 := Aside0.mk H
                clear H
                go_upto_region 17 with (first | ((with_reducible refine gate_callee (f := 18) rfl ?_); refine goesL_ (some 98) rfl rfl Try.func18 (by kernel_rfl) rfl #[.string t272, .string t269] rfl (by (try simp only [List.map_toArray, List.map_cons, List.map_nil]); first | done | rfl | (simp only [List.length_drop, List.length_take]; rfl)) ?_; (with_reducible refine (term_Box.calls t272 t269 t278 t279 _ A32.out).mono ?_); rintro e w35 ⟨rfl, hb⟩; refine ⟨_, rfl, ?_⟩; have n0_ := Aside0.mk (below_step (by repeat (first | (with_reducible first | exact HB.out | apply below_alloc | apply pw_below_drewN | apply below_drew1) | exact HB.out)) hb); clear HB; have HB := n0_; clear n0_; (try clear hb); (try clear hb2); (try clear hk); (try clear hi)) | ((with_reducible refine gate_callee (f := 14) rfl ?_); refine goesL_ (some 104) rfl rfl Try.func14 (by kernel_rfl) rfl #[.string t267, .string t269] rfl (by (try simp only [List.map_toArray, List.map_cons, List.map_nil]); first | done | rfl | (simp only [List.length_drop, List.length_take]; rfl)) ?_; (with_reducible refine (term_Sign.calls t267 t269 t280 t281 _ A33.out).mono ?_); rintro e w36 ⟨rfl, hb⟩; refine ⟨_, rfl, ?_⟩; have n0_ := Aside0.mk (below_step (by repeat (first | (with_reducible first | exact HB.out | apply below_alloc | apply pw_below_drewN | apply below_drew1) | exact HB.out)) hb); clear HB; have HB := n0_; clear n0_; (try clear hb); (try clear hb2); (try clear hk); (try clear hi)))
                (try simp only [Act.put, List.setIfInBounds_toArray, List.set_cons_zero, List.set_cons_succ])
                go_cut [112] (fun v112 wc => ∃ (kq : Nat) (x112_33 : Bool), v112 = .bool x112_33 ∧ Aside0 (letterlocklaw3_TermOpens.j2 kq t267 t268 t269 t279 t272 t281 t278 t280 x112_33 = some r) ∧ Aside0 (kq ≤ kj22) ∧ Aside0 (Below w.heap.size w wc))
                case first => as_aux_lemma =>
                  have H := HC34.out
                  clear HC34
                  by_cases c37 : t279 = 0
                  · rw [if_pos c37] at H
                    have c37b0 : (t279 == 0) = true := beq_iff_eq.mpr c37
                    have c37b1 : (t279 != 0) = false := bne_eq_false_iff_eq.mpr c37
                    clear c37
                    (first | rw [c37b0] | (simp only [i64_w, i32_w]; rw [c37b0]) | skip)
                    have H' := Aside0.mk H
                    clear H
                    go_wp2
                    go_meet
                    case rel => exact ⟨_, ((t281 != 0)), (by first | rfl | (simp; done) | (simp [*]; done) | (simp; exact isEmpty_ne _)), H', ⟨by have := HJ10.out; have := HJ22.out; first | omega | exact Nat.le_refl _⟩, ⟨by repeat (first | (with_reducible first | exact HB.out | apply below_alloc | apply pw_below_drewN | apply below_drew1) | exact HB.out)⟩⟩
                  · rw [if_neg c37] at H
                    have c37b0 : (t279 == 0) = false := beq_eq_false_iff_ne.mpr c37
                    have c37b1 : (t279 != 0) = true := bne_iff_ne.mpr c37
                    (first | rw [c37b0] | (simp only [i64_w, i32_w]; rw [c37b0]) | skip)
                    have H' := Aside0.mk H
                    clear H
                    go_wp2
                    go_meet
                    case rel => exact ⟨_, (true), (by first | rfl | (simp; done) | (simp [*]; done) | (simp; exact isEmpty_ne _)), H', ⟨by have := HJ10.out; have := HJ22.out; first | omega | exact Nat.le_refl _⟩, ⟨by repeat (first | (with_reducible first | exact HB.out | apply below_alloc | apply pw_below_drewN | apply below_drew1) | exact HB.out)⟩⟩
                case rest => as_aux_lemma =>
                  clear HC34
                  try clear c1
                  try clear c2
                  try clear p2
                  try clear c3
                  try clear c4
                  try clear c5
                  try clear c10
                  try clear c11
                  try clear c13
                  try clear c14
                  try clear c16
                  try clear c17
                  try clear c18
                  try clear c18b0
                  try clear c18b1
                  try clear c19
                  try clear c20
                  try clear c20b0
                  try clear c20b1
                  try clear c26
                  try clear c26b0
                  try clear c26b1
                  try clear c27
                  try clear c27b0
                  try clear c27b1
                  try clear c28
                  try clear c28b0
                  try clear c28b1
                  try clear c28b2
                  try clear c29
                  try clear c29b0
                  try clear c29b1
                  try clear c30
                  try clear c30b0
                  try clear c30b1
                  try clear c31
                  try clear c37
                  try clear c37b0
                  try clear c37b1
                  try clear p2
                  obtain ⟨kq, x112_33, rfl, HA, HJ33, HB⟩ := hcut
                  cases kq with
                  | zero => exact absurd HA.out (by simp [letterlocklaw3_TermOpens.j2])
                  | succ kj33 =>
                    have H := HA.out
                    clear HA
                    simp only [letterlocklaw3_TermOpens.j2] at H
                    by_cases c38 : x112_33 = true
                    · subst c38
                      have H1 : (if t279 = 10 then (some true) else (some (t281 == 10))) = some r := by rw [if_pos rfl] at H; exact H
                      clear H
                      have H := H1
                      clear H1
                      by_cases c39 : t279 = 10
                      · rw [if_pos c39] at H
                        have c39b0 : (t279 == 10) = true := beq_iff_eq.mpr c39
                        have c39b1 : (t279 != 10) = false := bne_eq_false_iff_eq.mpr c39
                        clear c39
                        obtain rfl := Option.some.inj H
                        go_wp2
                        go_ret
                        exact ⟨by first | rfl | (simp [errW_none, errW_some] <;> rfl) | (simp [*, errW_none, errW_some] <;> rfl), by repeat (first | (with_reducible first | exact HB.out | apply below_alloc | apply pw_below_drewN | apply below_drew1) | exact HB.out)⟩
                      · rw [if_neg c39] at H
                        have c39b0 : (t279 == 10) = false := beq_eq_false_iff_ne.mpr c39
                        have c39b1 : (t279 != 10) = true := bne_iff_ne.mpr c39
                        obtain rfl := Option.some.inj H
                        go_wp2
                        go_ret
                        exact ⟨by first | rfl | (simp [errW_none, errW_some] <;> rfl) | (simp [*, errW_none, errW_some] <;> rfl), by repeat (first | (with_reducible first | exact HB.out | apply below_alloc | apply pw_below_drewN | apply below_drew1) | exact HB.out)⟩
                    · replace c38 := Bool.eq_false_iff.mpr c38
                      subst c38
                      have H1 : ((term_Unbox.f t267 t278).bind fun bt282 => ((term_Unbox.f t268 t278).bind fun bt284 => (if bt282.2 = 0 then (if bt282.1.toList = t269.toList then (if ((bt284.2 == 0) != (t268.toList == t267.toList)) = true then (letterlocklaw3_TermOpens.j3 kj33 t267 t268 t269 t272 t280 true) else (if bt284.2 = 0 then (letterlocklaw3_TermOpens.j3 kj33 t267 t268 t269 t272 t280 false) else (if bt284.2 = 6 then (letterlocklaw3_TermOpens.j3 kj33 t267 t268 t269 t272 t280 (bt284.1.toList != ([] : List UInt8))) else (letterlocklaw3_TermOpens.j3 kj33 t267 t268 t269 t272 t280 true)))) else (letterlocklaw3_TermOpens.j3 kj33 t267 t268 t269 t272 t280 true)) else (letterlocklaw3_TermOpens.j3 kj33 t267 t268 t269 t272 t280 true)))) = some r := by rw [if_neg (show ¬ (false = true) by decide)] at H; exact H
                      clear H
                      have H := H1
                      clear H1
                      replace H := Option.bind_eq_some_iff.mp H
                      obtain ⟨⟨t282, t283⟩, A400, H⟩ := H
                      replace H : ((term_Unbox.f t268 t278).bind fun bt284 => (if t283 = 0 then (if t282.toList = t269.toList then (if ((bt284.2 == 0) != (t268.toList == t267.toList)) = true then (letterlocklaw3_TermOpens.j3 kj33 t267 t268 t269 t272 t280 true) else (if bt284.2 = 0 then (letterlocklaw3_TermOpens.j3 kj33 t267 t268 t269 t272 t280 false) else (if bt284.2 = 6 then (letterlocklaw3_TermOpens.j3 kj33 t267 t268 t269 t272 t280 (bt284.1.toList != ([] : List UInt8))) else (letterlocklaw3_TermOpens.j3 kj33 t267 t268 t269 t272 t280 true)))) else (letterlocklaw3_TermOpens.j3 kj33 t267 t268 t269 t272 t280 true)) else (letterlocklaw3_TermOpens.j3 kj33 t267 t268 t269 t272 t280 true))) = some r := H
                      have A40 := Aside0.mk A400
                      clear A400
                      replace H := Option.bind_eq_some_iff.mp H
                      obtain ⟨⟨t284, t285⟩, A410, H⟩ := H
                      replace H : (if t283 = 0 then (if t282.toList = t269.toList then (if ((t285 == 0) != (t268.toList == t267.toList)) = true then (letterlocklaw3_TermOpens.j3 kj33 t267 t268 t269 t272 t280 true) else (if t285 = 0 then (letterlocklaw3_TermOpens.j3 kj33 t267 t268 t269 t272 t280 false) else (if t285 = 6 then (letterlocklaw3_TermOpens.j3 kj33 t267 t268 t269 t272 t280 (t284.toList != ([] : List UInt8))) else (letterlocklaw3_TermOpens.j3 kj33 t267 t268 t269 t272 t280 true)))) else (letterlocklaw3_TermOpens.j3 kj33 t267 t268 t269 t272 t280 true)) else (letterlocklaw3_TermOpens.j3 kj33 t267 t268 t269 t272 t280 true)) = some r := H
                      have A41 := Aside0.mk A410
                      clear A410
                      have HC42 := Aside0.mk H
                      clear H
                      go_upto_region 21 with (first | ((with_reducible refine gate_callee (f := 19) rfl ?_); refine goesL_ (some 122) rfl rfl Try.func19 (by kernel_rfl) rfl #[.string t267, .string t278] rfl (by (try simp only [List.map_toArray, List.map_cons, List.map_nil]); first | done | rfl | (simp only [List.length_drop, List.length_take]; rfl)) ?_; (with_reducible refine (term_Unbox.calls t267 t278 t282 t283 _ A40.out).mono ?_); rintro e w43 ⟨rfl, hb⟩; refine ⟨_, rfl, ?_⟩; have n0_ := Aside0.mk (below_step (by repeat (first | (with_reducible first | exact HB.out | apply below_alloc | apply pw_below_drewN | apply below_drew1) | exact HB.out)) hb); clear HB; have HB := n0_; clear n0_; (try clear hb); (try clear hb2); (try clear hk); (try clear hi)) | ((with_reducible refine gate_callee (f := 19) rfl ?_); refine goesL_ (some 128) rfl rfl Try.func19 (by kernel_rfl) rfl #[.string t268, .string t278] rfl (by (try simp only [List.map_toArray, List.map_cons, List.map_nil]); first | done | rfl | (simp only [List.length_drop, List.length_take]; rfl)) ?_; (with_reducible refine (term_Unbox.calls t268 t278 t284 t285 _ A41.out).mono ?_); rintro e w44 ⟨rfl, hb⟩; refine ⟨_, rfl, ?_⟩; have n0_ := Aside0.mk (below_step (by repeat (first | (with_reducible first | exact HB.out | apply below_alloc | apply pw_below_drewN | apply below_drew1) | exact HB.out)) hb); clear HB; have HB := n0_; clear n0_; (try clear hb); (try clear hb2); (try clear hk); (try clear hi)))
                      (try simp only [Act.put, List.setIfInBounds_toArray, List.set_cons_zero, List.set_cons_succ])
                      go_cut [157] (fun v157 wc => ∃ (kq : Nat) (x157_41 : Bool), v157 = .bool x157_41 ∧ Aside0 (letterlocklaw3_TermOpens.j3 kq t267 t268 t269 t272 t280 x157_41 = some r) ∧ Aside0 (kq ≤ kj33) ∧ Aside0 (Below w.heap.size w wc))
                      case first => as_aux_lemma =>
                        have H := HC42.out
                        clear HC42
                        by_cases c45 : t283 = 0
                        · rw [if_pos c45] at H
                          have c45b0 : (t283 == 0) = true := beq_iff_eq.mpr c45
                          have c45b1 : (t283 != 0) = false := bne_eq_false_iff_eq.mpr c45
                          clear c45
                          (first | rw [c45b0] | (simp only [i64_w, i32_w]; rw [c45b0]) | skip)
                          by_cases c46 : t282.toList = t269.toList
                          · rw [if_pos c46] at H
                            have c46b0 : (t282.toList == t269.toList) = true := beq_iff_eq.mpr c46
                            have c46b1 : (t282.toList != t269.toList) = false := bne_eq_false_iff_eq.mpr c46
                            clear c46
                            by_cases d18 : t285 = 0
                            · have d18b0 : (t285 == 0) = true := beq_iff_eq.mpr d18
                              have d18b1 : (t285 != 0) = false := bne_eq_false_iff_eq.mpr d18
                              clear d18
                              by_cases d19 : t268.toList = t267.toList
                              · have d19b0 : (t268.toList == t267.toList) = true := beq_iff_eq.mpr d19
                                have d19b1 : (t268.toList != t267.toList) = false := bne_eq_false_iff_eq.mpr d19
                                clear d19
                                have c47 : ((t285 == 0) != (t268.toList == t267.toList)) = false := by rw [d18b0, d19b0]; rfl
                                rw [if_neg (by rw [c47]; decide)] at H
                                clear c47
                                have c48 : t285 = 0 := beq_iff_eq.mp d18b0
                                rw [if_pos c48] at H
                                clear c48
                                have H' := Aside0.mk H
                                clear H
                                go_wp2
                                go_meet
                                case rel => exact ⟨_, (false), (by first | rfl | (simp; done) | (simp [*]; done) | (simp; exact isEmpty_ne _)), H', ⟨by have := HJ10.out; have := HJ22.out; have := HJ33.out; first | omega | exact Nat.le_refl _⟩, ⟨by repeat (first | (with_reducible first | exact HB.out | apply below_alloc | apply pw_below_drewN | apply below_drew1) | exact HB.out)⟩⟩
                              · have d19b0 : (t268.toList == t267.toList) = false := beq_eq_false_iff_ne.mpr d19
                                have d19b1 : (t268.toList != t267.toList) = true := bne_iff_ne.mpr d19
                                clear d19
                                have c47 : ((t285 == 0) != (t268.toList == t267.toList)) = true := by rw [d18b0, d19b0]; rfl
                                rw [if_pos c47] at H
                                clear c47
                                have H' := Aside0.mk H
                                clear H
                                go_wp2
                                go_meet
                                case rel => exact ⟨_, (true), (by first | rfl | (simp; done) | (simp [*]; done) | (simp; exact isEmpty_ne _)), H', ⟨by have := HJ10.out; have := HJ22.out; have := HJ33.out; first | omega | exact Nat.le_refl _⟩, ⟨by repeat (first | (with_reducible first | exact HB.out | apply below_alloc | apply pw_below_drewN | apply below_drew1) | exact HB.out)⟩⟩
                            · have d18b0 : (t285 == 0) = false := beq_eq_false_iff_ne.mpr d18
                              have d18b1 : (t285 != 0) = true := bne_iff_ne.mpr d18
                              clear d18
                              by_cases d20 : t268.toList = t267.toList
                              · have d20b0 : (t268.toList == t267.toList) = true := beq_iff_eq.mpr d20
                                have d20b1 : (t268.toList != t267.toList) = false := bne_eq_false_iff_eq.mpr d20
                                clear d20
                                have c47 : ((t285 == 0) != (t268.toList == t267.toList)) = true := by rw [d18b0, d20b0]; rfl
                                rw [if_pos c47] at H
                                clear c47
                                have H' := Aside0.mk H
                                clear H
                                go_wp2
                                go_meet
                                case rel => exact ⟨_, (true), (by first | rfl | (simp; done) | (simp [*]; done) | (simp; exact isEmpty_ne _)), H', ⟨by have := HJ10.out; have := HJ22.out; have := HJ33.out; first | omega | exact Nat.le_refl _⟩, ⟨by repeat (first | (with_reducible first | exact HB.out | apply below_alloc | apply pw_below_drewN | apply below_drew1) | exact HB.out)⟩⟩
                              · have d20b0 : (t268.toList == t267.toList) = false := beq_eq_false_iff_ne.mpr d20
                                have d20b1 : (t268.toList != t267.toList) = true := bne_iff_ne.mpr d20
                                clear d20
                                have c47 : ((t285 == 0) != (t268.toList == t267.toList)) = false := by rw [d18b0, d20b0]; rfl
                                rw [if_neg (by rw [c47]; decide)] at H
                                clear c47
                                have c48 : ¬ (t285 = 0) := beq_eq_false_iff_ne.mp d18b0
                                rw [if_neg c48] at H
                                clear c48
                                by_cases c49 : t285 = 6
                                · rw [if_pos c49] at H
                                  have c49b0 : (t285 == 6) = true := beq_iff_eq.mpr c49
                                  have c49b1 : (t285 != 6) = false := bne_eq_false_iff_eq.mpr c49
                                  clear c49
                                  have H' := Aside0.mk H
                                  clear H
                                  go_wp2
                                  go_meet
                                  case rel => exact ⟨_, ((t284.toList != ([] : List UInt8))), (by first | rfl | (simp; done) | (simp [*]; done) | (simp; exact isEmpty_ne _)), H', ⟨by have := HJ10.out; have := HJ22.out; have := HJ33.out; first | omega | exact Nat.le_refl _⟩, ⟨by repeat (first | (with_reducible first | exact HB.out | apply below_alloc | apply pw_below_drewN | apply below_drew1) | exact HB.out)⟩⟩
                                · rw [if_neg c49] at H
                                  have c49b0 : (t285 == 6) = false := beq_eq_false_iff_ne.mpr c49
                                  have c49b1 : (t285 != 6) = true := bne_iff_ne.mpr c49
                                  have H' := Aside0.mk H
                                  clear H
                                  go_wp2
                                  go_meet
                                  case rel => exact ⟨_, (true), (by first | rfl | (simp; done) | (simp [*]; done) | (simp; exact isEmpty_ne _)), H', ⟨by have := HJ10.out; have := HJ22.out; have := HJ33.out; first | omega | exact Nat.le_refl _⟩, ⟨by repeat (first | (with_reducible first | exact HB.out | apply below_alloc | apply pw_below_drewN | apply below_drew1) | exact HB.out)⟩⟩
                          · rw [if_neg c46] at H
                            have c46b0 : (t282.toList == t269.toList) = false := beq_eq_false_iff_ne.mpr c46
                            have c46b1 : (t282.toList != t269.toList) = true := bne_iff_ne.mpr c46
                            have H' := Aside0.mk H
                            clear H
                            go_wp2
                            go_meet
                            case rel => exact ⟨_, (true), (by first | rfl | (simp; done) | (simp [*]; done) | (simp; exact isEmpty_ne _)), H', ⟨by have := HJ10.out; have := HJ22.out; have := HJ33.out; first | omega | exact Nat.le_refl _⟩, ⟨by repeat (first | (with_reducible first | exact HB.out | apply below_alloc | apply pw_below_drewN | apply below_drew1) | exact HB.out)⟩⟩
                        · rw [if_neg c45] at H
                          have c45b0 : (t283 == 0) = false := beq_eq_false_iff_ne.mpr c45
                          have c45b1 : (t283 != 0) = true := bne_iff_ne.mpr c45
                          (first | rw [c45b0] | (simp only [i64_w, i32_w]; rw [c45b0]) | skip)
                          have H' := Aside0.mk H
                          clear H
                          go_wp2
                          go_meet
                          case rel => exact ⟨_, (true), (by first | rfl | (simp; done) | (simp [*]; done) | (simp; exact isEmpty_ne _)), H', ⟨by have := HJ10.out; have := HJ22.out; have := HJ33.out; first | omega | exact Nat.le_refl _⟩, ⟨by repeat (first | (with_reducible first | exact HB.out | apply below_alloc | apply pw_below_drewN | apply below_drew1) | exact HB.out)⟩⟩
                      case rest => as_aux_lemma =>
                        clear HC42
                        try clear c1
                        try clear c2
                        try clear p2
                        try clear c3
                        try clear c4
                        try clear c5
                        try clear c10
                        try clear c11
                        try clear c13
                        try clear c14
                        try clear c16
                        try clear c17
                        try clear c18
                        try clear c18b0
                        try clear c18b1
                        try clear c19
                        try clear c20
                        try clear c20b0
                        try clear c20b1
                        try clear c26
                        try clear c26b0
                        try clear c26b1
                        try clear c27
                        try clear c27b0
                        try clear c27b1
                        try clear c28
                        try clear c28b0
                        try clear c28b1
                        try clear c28b2
                        try clear c29
                        try clear c29b0
                        try clear c29b1
                        try clear c30
                        try clear c30b0
                        try clear c30b1
                        try clear c31
                        try clear c37
                        try clear c37b0
                        try clear c37b1
                        try clear c38
                        try clear c39
                        try clear c39b0
                        try clear c39b1
                        try clear c45
                        try clear c45b0
                        try clear c45b1
                        try clear c46
                        try clear c46b0
                        try clear c46b1
                        try clear c47
                        try clear c47b0
                        try clear c47b1
                        try clear c47b2
                        try clear c48
                        try clear c48b0
                        try clear c48b1
                        try clear c49
                        try clear c49b0
                        try clear c49b1
                        try clear p2
                        obtain ⟨kq, x157_41, rfl, HA, HJ41, HB⟩ := hcut
                        cases kq with
                        | zero => exact absurd HA.out (by simp [letterlocklaw3_TermOpens.j3])
                        | succ kj41 =>
                          have H := HA.out
                          clear HA
                          simp only [letterlocklaw3_TermOpens.j3] at H
                          by_cases c50 : x157_41 = true
                          · subst c50
                            have H1 : (some false) = some r := by rw [if_pos rfl] at H; exact H
                            clear H
                            have H := H1
                            clear H1
                            obtain rfl := Option.some.inj H
                            go_wp2
                            go_ret
                            exact ⟨by first | rfl | (simp [errW_none, errW_some] <;> rfl) | (simp [*, errW_none, errW_some] <;> rfl), by repeat (first | (with_reducible first | exact HB.out | apply below_alloc | apply pw_below_drewN | apply below_drew1) | exact HB.out)⟩
                          · replace c50 := Bool.eq_false_iff.mpr c50
                            subst c50
                            have H1 : ((term_OfPublic.f t268).bind fun bt286 => ((term_Verify.f bt286.1 t269 t280).bind fun t288 => ((term_Verify.f t272 t269 t280).bind fun t289 => (if t289 = 0 then (if bt286.2 = 0 then (if ((t288 == 0) == (t268.toList == t267.toList)) = true then (if t288 = 0 then ((term_Verify.f t272 t268 t280).bind fun t290 => (some ((t290 == 0) == (t268.toList == t269.toList)))) else (if t288 = 7 then ((term_Verify.f t272 t268 t280).bind fun t291 => (some ((t291 == 0) == (t268.toList == t269.toList)))) else (some false))) else (some false)) else ((term_Verify.f t272 t268 t280).bind fun t292 => (some ((t292 == 0) == (t268.toList == t269.toList))))) else (some false))))) = some r := by rw [if_neg (show ¬ (false = true) by decide)] at H; exact H
                            clear H
                            have H := H1
                            clear H1
                            replace H := Option.bind_eq_some_iff.mp H
                            obtain ⟨⟨t286, t287⟩, A510, H⟩ := H
                            replace H : ((term_Verify.f t286 t269 t280).bind fun t288 => ((term_Verify.f t272 t269 t280).bind fun t289 => (if t289 = 0 then (if t287 = 0 then (if ((t288 == 0) == (t268.toList == t267.toList)) = true then (if t288 = 0 then ((term_Verify.f t272 t268 t280).bind fun t290 => (some ((t290 == 0) == (t268.toList == t269.toList)))) else (if t288 = 7 then ((term_Verify.f t272 t268 t280).bind fun t291 => (some ((t291 == 0) == (t268.toList == t269.toList)))) else (some false))) else (some false)) else ((term_Verify.f t272 t268 t280).bind fun t292 => (some ((t292 == 0) == (t268.toList == t269.toList))))) else (some false)))) = some r := H
                            have A51 := Aside0.mk A510
                            clear A510
                            replace H := Option.bind_eq_some_iff.mp H
                            obtain ⟨t288, A520, H⟩ := H
                            replace H : ((term_Verify.f t272 t269 t280).bind fun t289 => (if t289 = 0 then (if t287 = 0 then (if ((t288 == 0) == (t268.toList == t267.toList)) = true then (if t288 = 0 then ((term_Verify.f t272 t268 t280).bind fun t290 => (some ((t290 == 0) == (t268.toList == t269.toList)))) else (if t288 = 7 then ((term_Verify.f t272 t268 t280).bind fun t291 => (some ((t291 == 0) == (t268.toList == t269.toList)))) else (some false))) else (some false)) else ((term_Verify.f t272 t268 t280).bind fun t292 => (some ((t292 == 0) == (t268.toList == t269.toList))))) else (some false))) = some r := H
                            have A52 := Aside0.mk A520
                            clear A520
                            replace H := Option.bind_eq_some_iff.mp H
                            obtain ⟨t289, A530, H⟩ := H
                            replace H : (if t289 = 0 then (if t287 = 0 then (if ((t288 == 0) == (t268.toList == t267.toList)) = true then (if t288 = 0 then ((term_Verify.f t272 t268 t280).bind fun t290 => (some ((t290 == 0) == (t268.toList == t269.toList)))) else (if t288 = 7 then ((term_Verify.f t272 t268 t280).bind fun t291 => (some ((t291 == 0) == (t268.toList == t269.toList)))) else (some false))) else (some false)) else ((term_Verify.f t272 t268 t280).bind fun t292 => (some ((t292 == 0) == (t268.toList == t269.toList))))) else (some false)) = some r := H
                            have A53 := Aside0.mk A530
                            clear A530
                            by_cases c54 : t289 = 0
                            · rw [if_pos c54] at H
                              have c54b0 : (t289 == 0) = true := beq_iff_eq.mpr c54
                              have c54b1 : (t289 != 0) = false := bne_eq_false_iff_eq.mpr c54
                              clear c54
                              by_cases c55 : t287 = 0
                              · rw [if_pos c55] at H
                                have c55b0 : (t287 == 0) = true := beq_iff_eq.mpr c55
                                have c55b1 : (t287 != 0) = false := bne_eq_false_iff_eq.mpr c55
                                clear c55
                                by_cases d21 : t288 = 0
                                · have d21b0 : (t288 == 0) = true := beq_iff_eq.mpr d21
                                  have d21b1 : (t288 != 0) = false := bne_eq_false_iff_eq.mpr d21
                                  clear d21
                                  by_cases d22 : t268.toList = t267.toList
                                  · have d22b0 : (t268.toList == t267.toList) = true := beq_iff_eq.mpr d22
                                    have d22b1 : (t268.toList != t267.toList) = false := bne_eq_false_iff_eq.mpr d22
                                    clear d22
                                    have c56 : ((t288 == 0) == (t268.toList == t267.toList)) = true := by rw [d21b0, d22b0]; rfl
                                    rw [if_pos c56] at H
                                    clear c56
                                    have c57 : t288 = 0 := beq_iff_eq.mp d21b0
                                    rw [if_pos c57] at H
                                    clear c57
                                    replace H := Option.bind_eq_some_iff.mp H
                                    obtain ⟨t290, A580, H⟩ := H
                                    replace H : (some ((t290 == 0) == (t268.toList == t269.toList))) = some r := H
                                    have A58 := Aside0.mk A580
                                    clear A580
                                    obtain rfl := Option.some.inj H
                                    go_wp2_with (first | ((with_reducible refine gate_callee (f := 16) rfl ?_); refine goesL_ (some 160) rfl rfl Try.func16 (by kernel_rfl) rfl #[.string t268] rfl (by (try simp only [List.map_toArray, List.map_cons, List.map_nil]); first | done | rfl | (simp only [List.length_drop, List.length_take]; rfl)) ?_; (with_reducible refine (term_OfPublic.calls t268 t286 t287 _ A51.out).mono ?_); rintro e w59 ⟨rfl, hb⟩; refine ⟨_, rfl, ?_⟩; have n0_ := Aside0.mk (below_step (by repeat (first | (with_reducible first | exact HB.out | apply below_alloc | apply pw_below_drewN | apply below_drew1) | exact HB.out)) hb); clear HB; have HB := n0_; clear n0_; (try clear hb); (try clear hb2); (try clear hk); (try clear hi)) | ((with_reducible refine gate_callee (f := 20) rfl ?_); refine goesL_ (some 166) rfl rfl Try.func20 (by kernel_rfl) rfl #[.string t286, .string t269, .string t280] rfl (by (try simp only [List.map_toArray, List.map_cons, List.map_nil]); first | done | rfl | (simp only [List.length_drop, List.length_take]; rfl)) ?_; (with_reducible refine (term_Verify.calls t286 t269 t280 t288 _ A52.out).mono ?_); rintro e w60 ⟨rfl, hb⟩; refine ⟨_, rfl, ?_⟩; have n0_ := Aside0.mk (below_step (by repeat (first | (with_reducible first | exact HB.out | apply below_alloc | apply pw_below_drewN | apply below_drew1) | exact HB.out)) hb); clear HB; have HB := n0_; clear n0_; (try clear hb); (try clear hb2); (try clear hk); (try clear hi)) | ((with_reducible refine gate_callee (f := 20) rfl ?_); refine goesL_ (some 170) rfl rfl Try.func20 (by kernel_rfl) rfl #[.string t272, .string t269, .string t280] rfl (by (try simp only [List.map_toArray, List.map_cons, List.map_nil]); first | done | rfl | (simp only [List.length_drop, List.length_take]; rfl)) ?_; (with_reducible refine (term_Verify.calls t272 t269 t280 t289 _ A53.out).mono ?_); rintro e w61 ⟨rfl, hb⟩; refine ⟨_, rfl, ?_⟩; have n0_ := Aside0.mk (below_step (by repeat (first | (with_reducible first | exact HB.out | apply below_alloc | apply pw_below_drewN | apply below_drew1) | exact HB.out)) hb); clear HB; have HB := n0_; clear n0_; (try clear hb); (try clear hb2); (try clear hk); (try clear hi)) | (go_at_call 20; (with_reducible refine (term_Verify.calls t272 t268 t280 t290 _ A58.out).mono ?_); rintro e w62 ⟨rfl, hb⟩; have n0_ := Aside0.mk (below_step (by repeat (first | (with_reducible first | exact HB.out | apply below_alloc | apply pw_below_drewN | apply below_drew1) | exact HB.out)) hb); clear HB; have HB := n0_; clear n0_; (try clear hb); (try clear hb2); (try clear hk); (try clear hi)))
                                    go_ret
                                    exact ⟨by first | rfl | (simp [errW_none, errW_some] <;> rfl) | (simp [*, errW_none, errW_some] <;> rfl), by repeat (first | (with_reducible first | exact HB.out | apply below_alloc | apply pw_below_drewN | apply below_drew1) | exact HB.out)⟩
                                  · have d22b0 : (t268.toList == t267.toList) = false := beq_eq_false_iff_ne.mpr d22
                                    have d22b1 : (t268.toList != t267.toList) = true := bne_iff_ne.mpr d22
                                    clear d22
                                    have c56 : ((t288 == 0) == (t268.toList == t267.toList)) = false := by rw [d21b0, d22b0]; rfl
                                    rw [if_neg (by rw [c56]; decide)] at H
                                    clear c56
                                    obtain rfl := Option.some.inj H
                                    go_wp2_with (first | ((with_reducible refine gate_callee (f := 16) rfl ?_); refine goesL_ (some 160) rfl rfl Try.func16 (by kernel_rfl) rfl #[.string t268] rfl (by (try simp only [List.map_toArray, List.map_cons, List.map_nil]); first | done | rfl | (simp only [List.length_drop, List.length_take]; rfl)) ?_; (with_reducible refine (term_OfPublic.calls t268 t286 t287 _ A51.out).mono ?_); rintro e w72 ⟨rfl, hb⟩; refine ⟨_, rfl, ?_⟩; have n0_ := Aside0.mk (below_step (by repeat (first | (with_reducible first | exact HB.out | apply below_alloc | apply pw_below_drewN | apply below_drew1) | exact HB.out)) hb); clear HB; have HB := n0_; clear n0_; (try clear hb); (try clear hb2); (try clear hk); (try clear hi)) | ((with_reducible refine gate_callee (f := 20) rfl ?_); refine goesL_ (some 166) rfl rfl Try.func20 (by kernel_rfl) rfl #[.string t286, .string t269, .string t280] rfl (by (try simp only [List.map_toArray, List.map_cons, List.map_nil]); first | done | rfl | (simp only [List.length_drop, List.length_take]; rfl)) ?_; (with_reducible refine (term_Verify.calls t286 t269 t280 t288 _ A52.out).mono ?_); rintro e w73 ⟨rfl, hb⟩; refine ⟨_, rfl, ?_⟩; have n0_ := Aside0.mk (below_step (by repeat (first | (with_reducible first | exact HB.out | apply below_alloc | apply pw_below_drewN | apply below_drew1) | exact HB.out)) hb); clear HB; have HB := n0_; clear n0_; (try clear hb); (try clear hb2); (try clear hk); (try clear hi)) | ((with_reducible refine gate_callee (f := 20) rfl ?_); refine goesL_ (some 170) rfl rfl Try.func20 (by kernel_rfl) rfl #[.string t272, .string t269, .string t280] rfl (by (try simp only [List.map_toArray, List.map_cons, List.map_nil]); first | done | rfl | (simp only [List.length_drop, List.length_take]; rfl)) ?_; (with_reducible refine (term_Verify.calls t272 t269 t280 t289 _ A53.out).mono ?_); rintro e w74 ⟨rfl, hb⟩; refine ⟨_, rfl, ?_⟩; have n0_ := Aside0.mk (below_step (by repeat (first | (with_reducible first | exact HB.out | apply below_alloc | apply pw_below_drewN | apply below_drew1) | exact HB.out)) hb); clear HB; have HB := n0_; clear n0_; (try clear hb); (try clear hb2); (try clear hk); (try clear hi)))
                                    go_ret
                                    exact ⟨by first | rfl | (simp [errW_none, errW_some] <;> rfl) | (simp [*, errW_none, errW_some] <;> rfl), by repeat (first | (with_reducible first | exact HB.out | apply below_alloc | apply pw_below_drewN | apply below_drew1) | exact HB.out)⟩
                                · have d21b0 : (t288 == 0) = false := beq_eq_false_iff_ne.mpr d21
                                  have d21b1 : (t288 != 0) = true := bne_iff_ne.mpr d21
                                  clear d21
                                  by_cases d23 : t268.toList = t267.toList
                                  · have d23b0 : (t268.toList == t267.toList) = true := beq_iff_eq.mpr d23
                                    have d23b1 : (t268.toList != t267.toList) = false := bne_eq_false_iff_eq.mpr d23
                                    clear d23
                                    have c56 : ((t288 == 0) == (t268.toList == t267.toList)) = false := by rw [d21b0, d23b0]; rfl
                                    rw [if_neg (by rw [c56]; decide)] at H
                                    clear c56
                                    obtain rfl := Option.some.inj H
                                    go_wp2_with (first | ((with_reducible refine gate_callee (f := 16) rfl ?_); refine goesL_ (some 160) rfl rfl Try.func16 (by kernel_rfl) rfl #[.string t268] rfl (by (try simp only [List.map_toArray, List.map_cons, List.map_nil]); first | done | rfl | (simp only [List.length_drop, List.length_take]; rfl)) ?_; (with_reducible refine (term_OfPublic.calls t268 t286 t287 _ A51.out).mono ?_); rintro e w72 ⟨rfl, hb⟩; refine ⟨_, rfl, ?_⟩; have n0_ := Aside0.mk (below_step (by repeat (first | (with_reducible first | exact HB.out | apply below_alloc | apply pw_below_drewN | apply below_drew1) | exact HB.out)) hb); clear HB; have HB := n0_; clear n0_; (try clear hb); (try clear hb2); (try clear hk); (try clear hi)) | ((with_reducible refine gate_callee (f := 20) rfl ?_); refine goesL_ (some 166) rfl rfl Try.func20 (by kernel_rfl) rfl #[.string t286, .string t269, .string t280] rfl (by (try simp only [List.map_toArray, List.map_cons, List.map_nil]); first | done | rfl | (simp only [List.length_drop, List.length_take]; rfl)) ?_; (with_reducible refine (term_Verify.calls t286 t269 t280 t288 _ A52.out).mono ?_); rintro e w73 ⟨rfl, hb⟩; refine ⟨_, rfl, ?_⟩; have n0_ := Aside0.mk (below_step (by repeat (first | (with_reducible first | exact HB.out | apply below_alloc | apply pw_below_drewN | apply below_drew1) | exact HB.out)) hb); clear HB; have HB := n0_; clear n0_; (try clear hb); (try clear hb2); (try clear hk); (try clear hi)) | ((with_reducible refine gate_callee (f := 20) rfl ?_); refine goesL_ (some 170) rfl rfl Try.func20 (by kernel_rfl) rfl #[.string t272, .string t269, .string t280] rfl (by (try simp only [List.map_toArray, List.map_cons, List.map_nil]); first | done | rfl | (simp only [List.length_drop, List.length_take]; rfl)) ?_; (with_reducible refine (term_Verify.calls t272 t269 t280 t289 _ A53.out).mono ?_); rintro e w74 ⟨rfl, hb⟩; refine ⟨_, rfl, ?_⟩; have n0_ := Aside0.mk (below_step (by repeat (first | (with_reducible first | exact HB.out | apply below_alloc | apply pw_below_drewN | apply below_drew1) | exact HB.out)) hb); clear HB; have HB := n0_; clear n0_; (try clear hb); (try clear hb2); (try clear hk); (try clear hi)))
                                    go_ret
                                    exact ⟨by first | rfl | (simp [errW_none, errW_some] <;> rfl) | (simp [*, errW_none, errW_some] <;> rfl), by repeat (first | (with_reducible first | exact HB.out | apply below_alloc | apply pw_below_drewN | apply below_drew1) | exact HB.out)⟩
                                  · have d23b0 : (t268.toList == t267.toList) = false := beq_eq_false_iff_ne.mpr d23
                                    have d23b1 : (t268.toList != t267.toList) = true := bne_iff_ne.mpr d23
                                    clear d23
                                    have c56 : ((t288 == 0) == (t268.toList == t267.toList)) = true := by rw [d21b0, d23b0]; rfl
                                    rw [if_pos c56] at H
                                    clear c56
                                    have c57 : ¬ (t288 = 0) := beq_eq_false_iff_ne.mp d21b0
                                    rw [if_neg c57] at H
                                    clear c57
                                    by_cases c63 : t288 = 7
                                    · rw [if_pos c63] at H
                                      have c63b0 : (t288 == 7) = true := beq_iff_eq.mpr c63
                                      have c63b1 : (t288 != 7) = false := bne_eq_false_iff_eq.mpr c63
                                      clear c63
                                      replace H := Option.bind_eq_some_iff.mp H
                                      obtain ⟨t291, A640, H⟩ := H
                                      replace H : (some ((t291 == 0) == (t268.toList == t269.toList))) = some r := H
                                      have A64 := Aside0.mk A640
                                      clear A640
                                      obtain rfl := Option.some.inj H
                                      go_wp2_with (first | ((with_reducible refine gate_callee (f := 16) rfl ?_); refine goesL_ (some 160) rfl rfl Try.func16 (by kernel_rfl) rfl #[.string t268] rfl (by (try simp only [List.map_toArray, List.map_cons, List.map_nil]); first | done | rfl | (simp only [List.length_drop, List.length_take]; rfl)) ?_; (with_reducible refine (term_OfPublic.calls t268 t286 t287 _ A51.out).mono ?_); rintro e w65 ⟨rfl, hb⟩; refine ⟨_, rfl, ?_⟩; have n0_ := Aside0.mk (below_step (by repeat (first | (with_reducible first | exact HB.out | apply below_alloc | apply pw_below_drewN | apply below_drew1) | exact HB.out)) hb); clear HB; have HB := n0_; clear n0_; (try clear hb); (try clear hb2); (try clear hk); (try clear hi)) | ((with_reducible refine gate_callee (f := 20) rfl ?_); refine goesL_ (some 166) rfl rfl Try.func20 (by kernel_rfl) rfl #[.string t286, .string t269, .string t280] rfl (by (try simp only [List.map_toArray, List.map_cons, List.map_nil]); first | done | rfl | (simp only [List.length_drop, List.length_take]; rfl)) ?_; (with_reducible refine (term_Verify.calls t286 t269 t280 t288 _ A52.out).mono ?_); rintro e w66 ⟨rfl, hb⟩; refine ⟨_, rfl, ?_⟩; have n0_ := Aside0.mk (below_step (by repeat (first | (with_reducible first | exact HB.out | apply below_alloc | apply pw_below_drewN | apply below_drew1) | exact HB.out)) hb); clear HB; have HB := n0_; clear n0_; (try clear hb); (try clear hb2); (try clear hk); (try clear hi)) | ((with_reducible refine gate_callee (f := 20) rfl ?_); refine goesL_ (some 170) rfl rfl Try.func20 (by kernel_rfl) rfl #[.string t272, .string t269, .string t280] rfl (by (try simp only [List.map_toArray, List.map_cons, List.map_nil]); first | done | rfl | (simp only [List.length_drop, List.length_take]; rfl)) ?_; (with_reducible refine (term_Verify.calls t272 t269 t280 t289 _ A53.out).mono ?_); rintro e w67 ⟨rfl, hb⟩; refine ⟨_, rfl, ?_⟩; have n0_ := Aside0.mk (below_step (by repeat (first | (with_reducible first | exact HB.out | apply below_alloc | apply pw_below_drewN | apply below_drew1) | exact HB.out)) hb); clear HB; have HB := n0_; clear n0_; (try clear hb); (try clear hb2); (try clear hk); (try clear hi)) | (go_at_call 20; (with_reducible refine (term_Verify.calls t272 t268 t280 t291 _ A64.out).mono ?_); rintro e w68 ⟨rfl, hb⟩; have n0_ := Aside0.mk (below_step (by repeat (first | (with_reducible first | exact HB.out | apply below_alloc | apply pw_below_drewN | apply below_drew1) | exact HB.out)) hb); clear HB; have HB := n0_; clear n0_; (try clear hb); (try clear hb2); (try clear hk); (try clear hi)))
                                      go_ret
                                      exact ⟨by first | rfl | (simp [errW_none, errW_some] <;> rfl) | (simp [*, errW_none, errW_some] <;> rfl), by repeat (first | (with_reducible first | exact HB.out | apply below_alloc | apply pw_below_drewN | apply below_drew1) | exact HB.out)⟩
                                    · rw [if_neg c63] at H
                                      have c63b0 : (t288 == 7) = false := beq_eq_false_iff_ne.mpr c63
                                      have c63b1 : (t288 != 7) = true := bne_iff_ne.mpr c63
                                      obtain rfl := Option.some.inj H
                                      go_wp2_with (first | ((with_reducible refine gate_callee (f := 16) rfl ?_); refine goesL_ (some 160) rfl rfl Try.func16 (by kernel_rfl) rfl #[.string t268] rfl (by (try simp only [List.map_toArray, List.map_cons, List.map_nil]); first | done | rfl | (simp only [List.length_drop, List.length_take]; rfl)) ?_; (with_reducible refine (term_OfPublic.calls t268 t286 t287 _ A51.out).mono ?_); rintro e w69 ⟨rfl, hb⟩; refine ⟨_, rfl, ?_⟩; have n0_ := Aside0.mk (below_step (by repeat (first | (with_reducible first | exact HB.out | apply below_alloc | apply pw_below_drewN | apply below_drew1) | exact HB.out)) hb); clear HB; have HB := n0_; clear n0_; (try clear hb); (try clear hb2); (try clear hk); (try clear hi)) | ((with_reducible refine gate_callee (f := 20) rfl ?_); refine goesL_ (some 166) rfl rfl Try.func20 (by kernel_rfl) rfl #[.string t286, .string t269, .string t280] rfl (by (try simp only [List.map_toArray, List.map_cons, List.map_nil]); first | done | rfl | (simp only [List.length_drop, List.length_take]; rfl)) ?_; (with_reducible refine (term_Verify.calls t286 t269 t280 t288 _ A52.out).mono ?_); rintro e w70 ⟨rfl, hb⟩; refine ⟨_, rfl, ?_⟩; have n0_ := Aside0.mk (below_step (by repeat (first | (with_reducible first | exact HB.out | apply below_alloc | apply pw_below_drewN | apply below_drew1) | exact HB.out)) hb); clear HB; have HB := n0_; clear n0_; (try clear hb); (try clear hb2); (try clear hk); (try clear hi)) | ((with_reducible refine gate_callee (f := 20) rfl ?_); refine goesL_ (some 170) rfl rfl Try.func20 (by kernel_rfl) rfl #[.string t272, .string t269, .string t280] rfl (by (try simp only [List.map_toArray, List.map_cons, List.map_nil]); first | done | rfl | (simp only [List.length_drop, List.length_take]; rfl)) ?_; (with_reducible refine (term_Verify.calls t272 t269 t280 t289 _ A53.out).mono ?_); rintro e w71 ⟨rfl, hb⟩; refine ⟨_, rfl, ?_⟩; have n0_ := Aside0.mk (below_step (by repeat (first | (with_reducible first | exact HB.out | apply below_alloc | apply pw_below_drewN | apply below_drew1) | exact HB.out)) hb); clear HB; have HB := n0_; clear n0_; (try clear hb); (try clear hb2); (try clear hk); (try clear hi)))
                                      go_ret
                                      exact ⟨by first | rfl | (simp [errW_none, errW_some] <;> rfl) | (simp [*, errW_none, errW_some] <;> rfl), by repeat (first | (with_reducible first | exact HB.out | apply below_alloc | apply pw_below_drewN | apply below_drew1) | exact HB.out)⟩
                              · rw [if_neg c55] at H
                                have c55b0 : (t287 == 0) = false := beq_eq_false_iff_ne.mpr c55
                                have c55b1 : (t287 != 0) = true := bne_iff_ne.mpr c55
                                replace H := Option.bind_eq_some_iff.mp H
                                obtain ⟨t292, A750, H⟩ := H
                                replace H : (some ((t292 == 0) == (t268.toList == t269.toList))) = some r := H
                                have A75 := Aside0.mk A750
                                clear A750
                                obtain rfl := Option.some.inj H
                                go_wp2_with (first | ((with_reducible refine gate_callee (f := 16) rfl ?_); refine goesL_ (some 160) rfl rfl Try.func16 (by kernel_rfl) rfl #[.string t268] rfl (by (try simp only [List.map_toArray, List.map_cons, List.map_nil]); first | done | rfl | (simp only [List.length_drop, List.length_take]; rfl)) ?_; (with_reducible refine (term_OfPublic.calls t268 t286 t287 _ A51.out).mono ?_); rintro e w76 ⟨rfl, hb⟩; refine ⟨_, rfl, ?_⟩; have n0_ := Aside0.mk (below_step (by repeat (first | (with_reducible first | exact HB.out | apply below_alloc | apply pw_below_drewN | apply below_drew1) | exact HB.out)) hb); clear HB; have HB := n0_; clear n0_; (try clear hb); (try clear hb2); (try clear hk); (try clear hi)) | ((with_reducible refine gate_callee (f := 20) rfl ?_); refine goesL_ (some 166) rfl rfl Try.func20 (by kernel_rfl) rfl #[.string t286, .string t269, .string t280] rfl (by (try simp only [List.map_toArray, List.map_cons, List.map_nil]); first | done | rfl | (simp only [List.length_drop, List.length_take]; rfl)) ?_; (with_reducible refine (term_Verify.calls t286 t269 t280 t288 _ A52.out).mono ?_); rintro e w77 ⟨rfl, hb⟩; refine ⟨_, rfl, ?_⟩; have n0_ := Aside0.mk (below_step (by repeat (first | (with_reducible first | exact HB.out | apply below_alloc | apply pw_below_drewN | apply below_drew1) | exact HB.out)) hb); clear HB; have HB := n0_; clear n0_; (try clear hb); (try clear hb2); (try clear hk); (try clear hi)) | ((with_reducible refine gate_callee (f := 20) rfl ?_); refine goesL_ (some 170) rfl rfl Try.func20 (by kernel_rfl) rfl #[.string t272, .string t269, .string t280] rfl (by (try simp only [List.map_toArray, List.map_cons, List.map_nil]); first | done | rfl | (simp only [List.length_drop, List.length_take]; rfl)) ?_; (with_reducible refine (term_Verify.calls t272 t269 t280 t289 _ A53.out).mono ?_); rintro e w78 ⟨rfl, hb⟩; refine ⟨_, rfl, ?_⟩; have n0_ := Aside0.mk (below_step (by repeat (first | (with_reducible first | exact HB.out | apply below_alloc | apply pw_below_drewN | apply below_drew1) | exact HB.out)) hb); clear HB; have HB := n0_; clear n0_; (try clear hb); (try clear hb2); (try clear hk); (try clear hi)) | (go_at_call 20; (with_reducible refine (term_Verify.calls t272 t268 t280 t292 _ A75.out).mono ?_); rintro e w79 ⟨rfl, hb⟩; have n0_ := Aside0.mk (below_step (by repeat (first | (with_reducible first | exact HB.out | apply below_alloc | apply pw_below_drewN | apply below_drew1) | exact HB.out)) hb); clear HB; have HB := n0_; clear n0_; (try clear hb); (try clear hb2); (try clear hk); (try clear hi)))
                                go_ret
                                exact ⟨by first | rfl | (simp [errW_none, errW_some] <;> rfl) | (simp [*, errW_none, errW_some] <;> rfl), by repeat (first | (with_reducible first | exact HB.out | apply below_alloc | apply pw_below_drewN | apply below_drew1) | exact HB.out)⟩
                            · rw [if_neg c54] at H
                              have c54b0 : (t289 == 0) = false := beq_eq_false_iff_ne.mpr c54
                              have c54b1 : (t289 != 0) = true := bne_iff_ne.mpr c54
                              obtain rfl := Option.some.inj H
                              go_wp2_with (first | ((with_reducible refine gate_callee (f := 16) rfl ?_); refine goesL_ (some 160) rfl rfl Try.func16 (by kernel_rfl) rfl #[.string t268] rfl (by (try simp only [List.map_toArray, List.map_cons, List.map_nil]); first | done | rfl | (simp only [List.length_drop, List.length_take]; rfl)) ?_; (with_reducible refine (term_OfPublic.calls t268 t286 t287 _ A51.out).mono ?_); rintro e w80 ⟨rfl, hb⟩; refine ⟨_, rfl, ?_⟩; have n0_ := Aside0.mk (below_step (by repeat (first | (with_reducible first | exact HB.out | apply below_alloc | apply pw_below_drewN | apply below_drew1) | exact HB.out)) hb); clear HB; have HB := n0_; clear n0_; (try clear hb); (try clear hb2); (try clear hk); (try clear hi)) | ((with_reducible refine gate_callee (f := 20) rfl ?_); refine goesL_ (some 166) rfl rfl Try.func20 (by kernel_rfl) rfl #[.string t286, .string t269, .string t280] rfl (by (try simp only [List.map_toArray, List.map_cons, List.map_nil]); first | done | rfl | (simp only [List.length_drop, List.length_take]; rfl)) ?_; (with_reducible refine (term_Verify.calls t286 t269 t280 t288 _ A52.out).mono ?_); rintro e w81 ⟨rfl, hb⟩; refine ⟨_, rfl, ?_⟩; have n0_ := Aside0.mk (below_step (by repeat (first | (with_reducible first | exact HB.out | apply below_alloc | apply pw_below_drewN | apply below_drew1) | exact HB.out)) hb); clear HB; have HB := n0_; clear n0_; (try clear hb); (try clear hb2); (try clear hk); (try clear hi)) | ((with_reducible refine gate_callee (f := 20) rfl ?_); refine goesL_ (some 170) rfl rfl Try.func20 (by kernel_rfl) rfl #[.string t272, .string t269, .string t280] rfl (by (try simp only [List.map_toArray, List.map_cons, List.map_nil]); first | done | rfl | (simp only [List.length_drop, List.length_take]; rfl)) ?_; (with_reducible refine (term_Verify.calls t272 t269 t280 t289 _ A53.out).mono ?_); rintro e w82 ⟨rfl, hb⟩; refine ⟨_, rfl, ?_⟩; have n0_ := Aside0.mk (below_step (by repeat (first | (with_reducible first | exact HB.out | apply below_alloc | apply pw_below_drewN | apply below_drew1) | exact HB.out)) hb); clear HB; have HB := n0_; clear n0_; (try clear hb); (try clear hb2); (try clear hk); (try clear hi)))
                              go_ret
                              exact ⟨by first | rfl | (simp [errW_none, errW_some] <;> rfl) | (simp [*, errW_none, errW_some] <;> rfl), by repeat (first | (with_reducible first | exact HB.out | apply below_alloc | apply pw_below_drewN | apply below_drew1) | exact HB.out)⟩
  · replace c5 := Bool.eq_false_iff.mpr c5
    subst c5
    have H1 : (some false) = some r := by rw [if_neg (show ¬ (false = true) by decide)] at H; exact H
    clear H
    have H := H1
    clear H1
    obtain rfl := Option.some.inj H
    go_enter Try.func4, Try.ntmps4
    go_wp2_with (first | ((with_reducible refine gate_callee (f := 10) rfl ?_); refine goesL_ (some 24) rfl rfl Try.func10 (by kernel_rfl) rfl #[] rfl (by (try simp only [List.map_toArray, List.map_cons, List.map_nil]); first | done | rfl | (simp only [List.length_drop, List.length_take]; rfl)) ?_; (with_reducible refine (letterlocklaw3_shown.calls k  false _ A4.out).mono ?_); rintro e w83 ⟨rfl, hb⟩; refine ⟨_, rfl, ?_⟩; have n0_ := Aside0.mk (below_step (by repeat (first | (with_reducible first | exact HB.out | apply below_alloc | apply pw_below_drewN | apply below_drew1) | exact HB.out)) hb); clear HB; have HB := n0_; clear n0_; (try clear hb); (try clear hb2); (try clear hk); (try clear hi)))
    go_ret
    exact ⟨by first | rfl | (simp [errW_none, errW_some] <;> rfl) | (simp [*, errW_none, errW_some] <;> rfl), by repeat (first | (with_reducible first | exact HB.out | apply below_alloc | apply pw_below_drewN | apply below_drew1) | exact HB.out)⟩

/-- THE ONE PURE STATEMENT of letterlocklaw3_TermOpens: yours. -/
def letterlocklaw3_TermOpens.Pure : Prop := ∀ (l0 : List Int) (l1 : List Int) (l2 : List Int), l0.length ≤ maxLen → l0.length * 8 ≤ 140737488351232 → (∀ x ∈ l0, (Lit.int .i64 x).wf = true) → l1.length ≤ maxLen → l1.length * 8 ≤ 140737488351232 → (∀ x ∈ l1, (Lit.int .i64 x).wf = true) → l2.length ≤ maxLen → l2.length * 8 ≤ 140737488351232 → (∀ x ∈ l2, (Lit.int .i64 x).wf = true) → ∃ k, letterlocklaw3_TermOpens.f k l0 l1 l2 = some true
theorem letterlocklaw3_TermOpens.walk (P : letterlocklaw3_TermOpens.Pure) (a0 : Option Addr) (len0 cap0 : Nat) (z0 : List Int) (a1 : Option Addr) (len1 cap1 : Nat) (z1 : List Int) (a2 : Option Addr) (len2 cap2 : Nat) (z2 : List Int) (w : World) (w0 : (a0 = none ∧ len0 = 0 ∧ cap0 = 0 ∧ z0 = []) ∨ ∃ x, a0 = some x ∧ len0 ≤ cap0 ∧ cap0 ≤ maxLen ∧ z0.length = cap0 ∧ (∀ i, i < z0.length → w.cell? (x.add i) = some (.int .i64 (z0.getD i 0))) ∧ ∀ n ∈ z0, (Lit.int .i64 n).wf = true) (y0 : len0 * 8 ≤ 140737488351232) (w1 : (a1 = none ∧ len1 = 0 ∧ cap1 = 0 ∧ z1 = []) ∨ ∃ x, a1 = some x ∧ len1 ≤ cap1 ∧ cap1 ≤ maxLen ∧ z1.length = cap1 ∧ (∀ i, i < z1.length → w.cell? (x.add i) = some (.int .i64 (z1.getD i 0))) ∧ ∀ n ∈ z1, (Lit.int .i64 n).wf = true) (y1 : len1 * 8 ≤ 140737488351232) (w2 : (a2 = none ∧ len2 = 0 ∧ cap2 = 0 ∧ z2 = []) ∨ ∃ x, a2 = some x ∧ len2 ≤ cap2 ∧ cap2 ≤ maxLen ∧ z2.length = cap2 ∧ (∀ i, i < z2.length → w.cell? (x.add i) = some (.int .i64 (z2.getD i 0))) ∧ ∀ n ∈ z2, (Lit.int .i64 n).wf = true) (y2 : len2 * 8 ≤ 140737488351232) :
    Calls Try.prog 4 #[.slice a0 len0 cap0, .slice a1 len1 cap1, .slice a2 len2 cap2] w fun e w' => e = .returned (.bool true) ∧ Below w.heap.size w w' := by
  obtain ⟨l0, rfl, hr0, hm0, hw0, hc0⟩ := ReadsInt.ofRowC w0
  obtain ⟨l1, rfl, hr1, hm1, hw1, hc1⟩ := ReadsInt.ofRowC w1
  obtain ⟨l2, rfl, hr2, hm2, hw2, hc2⟩ := ReadsInt.ofRowC w2
  obtain ⟨k, h⟩ := P l0 l1 l2 hm0 y0 hw0 hm1 y1 hw1 hm2 y2 hw2
  refine (letterlocklaw3_TermOpens.calls k _ _ l0 _ _ l1 _ _ l2 true w (Kd.C_of_reads (d := (0 : Int)) (h1 := fun _ => rfl) hr0) hc0 (Kd.C_of_reads (d := (0 : Int)) (h1 := fun _ => rfl) hr1) hc1 (Kd.C_of_reads (d := (0 : Int)) (h1 := fun _ => rfl) hr2) hc2 h).mono ?_
  rintro e w' ⟨rfl, hd⟩
  exact ⟨rfl, hd⟩

end Go.Proofs.Ytfkkmagiobfeiaa.P
