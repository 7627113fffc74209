/- Printed for this claim by wip/myprint.py out of the translation: Lean functions with the answers of the Go functions, and proofs that the Go code comes to them. Lean checks it. -/
import Derived.Test.YtfkkmagiobfeiaaG0
import Derived.Test.YtfkkmagiobfeiaaGLaw3
import Derived.Test.YtfkkmagiobfeiaaGTerm
import Derived.Test.YtfkkmagiobfeiaaXTerm
namespace Go.Proofs.Ytfkkmagiobfeiaa.P
open Go.RowKit Go.Proofs.YtfkkmagiobfeiaaW.PrintWords Go.Proofs.YtfkkmagiobfeiaaW.PrintLast Go.Proofs.YtfkkmagiobfeiaaW.PrintMore
attribute [local go_sem] max2_int min2_int max_two min_two max_three min_three max_four min_four   -- for this text's walks alone
set_option linter.unusedVariables false
set_option linter.unusedSimpArgs false

/-! ### letterlocklaw3_TermParts: function 9 -/
mutual
def letterlocklaw3_TermParts.j0 : Nat → List Int → ByteArray → Int → Bool → Bool → Option (Bool)
  | 0, _, _, _, _, _ => none
  | k + 1, x0, x1, x2, x7, x33 => if x33 = true then (some x7) else ((letterlocklaw3_grown.f k x0).bind fun t464 => (if t464.size + x1.size ≤ 9223372036854775807 then ((term_Read.f (t464 ++ x1)).bind fun bt465 => ((term_Parts.f t464).bind fun bt468 => (if bt465.2.2 = 0 then (if bt465.1.toList = t464.toList then (if bt465.2.1.toList = x1.toList then (if bt468.2 = 0 then ((term_Kind.f t464).bind fun t472 => (if 0 < (t464.size : Int) then (letterlocklaw3_TermParts.j1 k x1 x2 t464 bt468.1 (t472 != (bt t464 0))) else (none))) else (letterlocklaw3_TermParts.j1 k x1 x2 t464 bt468.1 true)) else (letterlocklaw3_TermParts.j1 k x1 x2 t464 bt468.1 true)) else (letterlocklaw3_TermParts.j1 k x1 x2 t464 bt468.1 true)) else (letterlocklaw3_TermParts.j1 k x1 x2 t464 bt468.1 true)))) else (none)))
def letterlocklaw3_TermParts.j1 : Nat → ByteArray → Int → ByteArray → List ByteArray → Bool → Option (Bool)
  | 0, _, _, _, _, _ => none
  | k + 1, x1, x2, x8, x12, x72 => if x72 = true then (some false) else (if 1 ≤ (x8.size : Int) then (letterlocklaw3_TermParts.l0 k x1 x2 x8 x12 (x8.extract 0 1) 0) else (none))
def letterlocklaw3_TermParts.l0 : Nat → ByteArray → Int → ByteArray → List ByteArray → ByteArray → Int → Option (Bool)
  | 0, _, _, _, _, _, _ => none
  | k + 1, x1, x2, x8, x12, x14, x15 => if x15 < (x12.length : Int) then (if 0 ≤ x15 then (if x14.size + (rdOf ByteArray.empty x12 x15).size ≤ 9223372036854775807 then ((term_Kind.f (rdOf ByteArray.empty x12 x15)).bind fun t475 => (if t475 = 0 then (some false) else (letterlocklaw3_TermParts.l0 k x1 x2 x8 x12 (x14 ++ (rdOf ByteArray.empty x12 x15)) (wrap64 (x15 + 1))))) else (none)) else (none)) else (if (x12.length : Int) > 0 then (letterlocklaw3_TermParts.j3 k x1 x2 x8 (x14.toList != x8.toList)) else (letterlocklaw3_TermParts.j3 k x1 x2 x8 false))
def letterlocklaw3_TermParts.j3 : Nat → ByteArray → Int → ByteArray → Bool → Option (Bool)
  | 0, _, _, _, _ => none
  | k + 1, x1, x2, x8, x100 => if x100 = true then (some false) else ((term_Number.f x8).bind fun bt476 => ((term_Words.f x8).bind fun bt478 => (if 0 < (x8.size : Int) then (if ((bt476.2 == 0) != ((bt x8 0) == 97)) = true then (letterlocklaw3_TermParts.j4 k x1 x2 x8 bt478.1 bt478.2 true) else (if ((bt478.2 == 0) != ((bt x8 0) == 116)) = true then (letterlocklaw3_TermParts.j4 k x1 x2 x8 bt478.1 bt478.2 true) else (if bt476.2 = 0 then ((term_OfAtom.f k bt476.1).bind fun t480 => (if t480.toList = x8.toList then (letterlocklaw3_TermParts.j4 k x1 x2 x8 bt478.1 bt478.2 false) else (letterlocklaw3_TermParts.j4 k x1 x2 x8 bt478.1 bt478.2 true))) else (letterlocklaw3_TermParts.j4 k x1 x2 x8 bt478.1 bt478.2 (bt476.1 != 0))))) else (none))))
def letterlocklaw3_TermParts.j4 : Nat → ByteArray → Int → ByteArray → ByteArray → Int → Bool → Option (Bool)
  | 0, _, _, _, _, _, _ => none
  | k + 1, x1, x2, x8, x18, x19, x142 => if x142 = true then (some false) else ((term_OfText.f k x18).bind fun bt481 => ((letterlocklaw3_pick.f x2 (x8.size : Int)).bind fun t483 => (if 0 ≤ t483 then (if t483 ≤ (x8.size : Int) then ((term_Read.f (x8.extract 0 (t483 : Int).toNat)).bind fun bt484 => (if x19 = 0 then (if bt481.2 = 0 then (if bt481.1.toList = x8.toList then (if bt484.2.2 = 2 then ((term_Kind.f (x8.extract 0 (t483 : Int).toNat)).bind fun t487 => (if t487 = 0 then (if x1.toList = ([] : List UInt8) then (some true) else (if x8.size + x1.size ≤ 9223372036854775807 then ((term_Kind.f (x8 ++ x1)).bind fun t488 => (some (t488 == 0))) else (none))) else (some false))) else (some false)) else (some false)) else (some false)) else (if bt484.2.2 = 2 then ((term_Kind.f (x8.extract 0 (t483 : Int).toNat)).bind fun t489 => (if t489 = 0 then (if x1.toList = ([] : List UInt8) then (some true) else (if x8.size + x1.size ≤ 9223372036854775807 then ((term_Kind.f (x8 ++ x1)).bind fun t490 => (some (t490 == 0))) else (none))) else (some false))) else (some false)))) else (none)) else (none))))
end
def letterlocklaw3_TermParts.f (k : Nat) (l0 : List Int) (a1 : ByteArray) (a2 : Int) : Option (Bool) := (letterlocklaw3_shown.f k).bind fun t463 => (if t463 = true then (letterlocklaw3_TermParts.j0 k l0 a1 a2 t463 (decide ((a1.size : Int) > 2000))) else (letterlocklaw3_TermParts.j0 k l0 a1 a2 t463 true))
theorem letterlocklaw3_TermParts.mono_l : ∀ k, (∀ y0 y1 y2 y3 y4, LeO (letterlocklaw3_TermParts.j0 k y0 y1 y2 y3 y4) (letterlocklaw3_TermParts.j0 (k + 1) y0 y1 y2 y3 y4)) ∧ (∀ y0 y1 y2 y3 y4, LeO (letterlocklaw3_TermParts.j1 k y0 y1 y2 y3 y4) (letterlocklaw3_TermParts.j1 (k + 1) y0 y1 y2 y3 y4)) ∧ (∀ y0 y1 y2 y3 y4 y5, LeO (letterlocklaw3_TermParts.l0 k y0 y1 y2 y3 y4 y5) (letterlocklaw3_TermParts.l0 (k + 1) y0 y1 y2 y3 y4 y5)) ∧ (∀ y0 y1 y2 y3, LeO (letterlocklaw3_TermParts.j3 k y0 y1 y2 y3) (letterlocklaw3_TermParts.j3 (k + 1) y0 y1 y2 y3)) ∧ (∀ y0 y1 y2 y3 y4 y5, LeO (letterlocklaw3_TermParts.j4 k y0 y1 y2 y3 y4 y5) (letterlocklaw3_TermParts.j4 (k + 1) y0 y1 y2 y3 y4 y5))
  | 0 => ⟨fun _ _ _ _ _ r h => by simp [letterlocklaw3_TermParts.j0] at h, fun _ _ _ _ _ r h => by simp [letterlocklaw3_TermParts.j1] at h, fun _ _ _ _ _ _ r h => by simp [letterlocklaw3_TermParts.l0] at h, fun _ _ _ _ r h => by simp [letterlocklaw3_TermParts.j3] at h, fun _ _ _ _ _ _ r h => by simp [letterlocklaw3_TermParts.j4] at h⟩
  | k + 1 => by
    obtain ⟨ih0, ih1, ih2, ih3, ih4⟩ := letterlocklaw3_TermParts.mono_l k
    refine ⟨?_, ?_, ?_, ?_, ?_⟩
    · intro y0 y1 y2 y3 y4
      unfold letterlocklaw3_TermParts.j0
      repeat' first
      | (with_reducible exact ih0 _ _ _ _ _)
      | (with_reducible exact ih1 _ _ _ _ _)
      | (with_reducible exact ih2 _ _ _ _ _ _)
      | (with_reducible exact ih3 _ _ _ _)
      | (with_reducible exact ih4 _ _ _ _ _ _)
      | (with_reducible exact letterlocklaw3_grown.mono _ _)
      | (with_reducible exact letterlocklaw3_shown.mono _)
      | (with_reducible exact term_OfAtom.mono _ _)
      | (with_reducible exact term_OfText.mono _ _)
      | (with_reducible exact LeO.refl _)
      | (with_reducible exact LeO.none _)
      | (with_reducible refine LeO.ite ?_ ?_)
      | (with_reducible refine LeO.bind ?_ (fun _ => ?_))
      | exact ih0 _ _ _ _ _
      | exact ih1 _ _ _ _ _
      | exact ih2 _ _ _ _ _ _
      | exact ih3 _ _ _ _
      | exact ih4 _ _ _ _ _ _
      | exact letterlocklaw3_grown.mono _ _
      | exact letterlocklaw3_shown.mono _
      | exact term_OfAtom.mono _ _
      | exact term_OfText.mono _ _
      | exact LeO.none _
      | refine LeO.ite ?_ ?_
      | refine LeO.bind ?_ (fun _ => ?_)
    · intro y0 y1 y2 y3 y4
      unfold letterlocklaw3_TermParts.j1
      repeat' first
      | (with_reducible exact ih0 _ _ _ _ _)
      | (with_reducible exact ih1 _ _ _ _ _)
      | (with_reducible exact ih2 _ _ _ _ _ _)
      | (with_reducible exact ih3 _ _ _ _)
      | (with_reducible exact ih4 _ _ _ _ _ _)
      | (with_reducible exact letterlocklaw3_grown.mono _ _)
      | (with_reducible exact letterlocklaw3_shown.mono _)
      | (with_reducible exact term_OfAtom.mono _ _)
      | (with_reducible exact term_OfText.mono _ _)
      | (with_reducible exact LeO.refl _)
      | (with_reducible exact LeO.none _)
      | (with_reducible refine LeO.ite ?_ ?_)
      | (with_reducible refine LeO.bind ?_ (fun _ => ?_))
      | exact ih0 _ _ _ _ _
      | exact ih1 _ _ _ _ _
      | exact ih2 _ _ _ _ _ _
      | exact ih3 _ _ _ _
      | exact ih4 _ _ _ _ _ _
      | exact letterlocklaw3_grown.mono _ _
      | exact letterlocklaw3_shown.mono _
      | exact term_OfAtom.mono _ _
      | exact term_OfText.mono _ _
      | exact LeO.none _
      | refine LeO.ite ?_ ?_
      | refine LeO.bind ?_ (fun _ => ?_)
    · intro y0 y1 y2 y3 y4 y5
      unfold letterlocklaw3_TermParts.l0
      repeat' first
      | (with_reducible exact ih0 _ _ _ _ _)
      | (with_reducible exact ih1 _ _ _ _ _)
      | (with_reducible exact ih2 _ _ _ _ _ _)
      | (with_reducible exact ih3 _ _ _ _)
      | (with_reducible exact ih4 _ _ _ _ _ _)
      | (with_reducible exact letterlocklaw3_grown.mono _ _)
      | (with_reducible exact letterlocklaw3_shown.mono _)
      | (with_reducible exact term_OfAtom.mono _ _)
      | (with_reducible exact term_OfText.mono _ _)
      | (with_reducible exact LeO.refl _)
      | (with_reducible exact LeO.none _)
      | (with_reducible refine LeO.ite ?_ ?_)
      | (with_reducible refine LeO.bind ?_ (fun _ => ?_))
      | exact ih0 _ _ _ _ _
      | exact ih1 _ _ _ _ _
      | exact ih2 _ _ _ _ _ _
      | exact ih3 _ _ _ _
      | exact ih4 _ _ _ _ _ _
      | exact letterlocklaw3_grown.mono _ _
      | exact letterlocklaw3_shown.mono _
      | exact term_OfAtom.mono _ _
      | exact term_OfText.mono _ _
      | exact LeO.none _
      | refine LeO.ite ?_ ?_
      | refine LeO.bind ?_ (fun _ => ?_)
    · intro y0 y1 y2 y3
      unfold letterlocklaw3_TermParts.j3
      repeat' first
      | (with_reducible exact ih0 _ _ _ _ _)
      | (with_reducible exact ih1 _ _ _ _ _)
      | (with_reducible exact ih2 _ _ _ _ _ _)
      | (with_reducible exact ih3 _ _ _ _)
      | (with_reducible exact ih4 _ _ _ _ _ _)
      | (with_reducible exact letterlocklaw3_grown.mono _ _)
      | (with_reducible exact letterlocklaw3_shown.mono _)
      | (with_reducible exact term_OfAtom.mono _ _)
      | (with_reducible exact term_OfText.mono _ _)
      | (with_reducible exact LeO.refl _)
      | (with_reducible exact LeO.none _)
      | (with_reducible refine LeO.ite ?_ ?_)
      | (with_reducible refine LeO.bind ?_ (fun _ => ?_))
      | exact ih0 _ _ _ _ _
      | exact ih1 _ _ _ _ _
      | exact ih2 _ _ _ _ _ _
      | exact ih3 _ _ _ _
      | exact ih4 _ _ _ _ _ _
      | exact letterlocklaw3_grown.mono _ _
      | exact letterlocklaw3_shown.mono _
      | exact term_OfAtom.mono _ _
      | exact term_OfText.mono _ _
      | exact LeO.none _
      | refine LeO.ite ?_ ?_
      | refine LeO.bind ?_ (fun _ => ?_)
    · intro y0 y1 y2 y3 y4 y5
      unfold letterlocklaw3_TermParts.j4
      repeat' first
      | (with_reducible exact ih0 _ _ _ _ _)
      | (with_reducible exact ih1 _ _ _ _ _)
      | (with_reducible exact ih2 _ _ _ _ _ _)
      | (with_reducible exact ih3 _ _ _ _)
      | (with_reducible exact ih4 _ _ _ _ _ _)
      | (with_reducible exact letterlocklaw3_grown.mono _ _)
      | (with_reducible exact letterlocklaw3_shown.mono _)
      | (with_reducible exact term_OfAtom.mono _ _)
      | (with_reducible exact term_OfText.mono _ _)
      | (with_reducible exact LeO.refl _)
      | (with_reducible exact LeO.none _)
      | (with_reducible refine LeO.ite ?_ ?_)
      | (with_reducible refine LeO.bind ?_ (fun _ => ?_))
      | exact ih0 _ _ _ _ _
      | exact ih1 _ _ _ _ _
      | exact ih2 _ _ _ _ _ _
      | exact ih3 _ _ _ _
      | exact ih4 _ _ _ _ _ _
      | exact letterlocklaw3_grown.mono _ _
      | exact letterlocklaw3_shown.mono _
      | exact term_OfAtom.mono _ _
      | exact term_OfText.mono _ _
      | exact LeO.none _
      | refine LeO.ite ?_ ?_
      | refine LeO.bind ?_ (fun _ => ?_)
theorem letterlocklaw3_TermParts.mono : ∀ a0 a1 a2 k, LeO (letterlocklaw3_TermParts.f k a0 a1 a2) (letterlocklaw3_TermParts.f (k + 1) a0 a1 a2) := by
  intro a0 a1 a2 k
  obtain ⟨ih0, ih1, ih2, ih3, ih4⟩ := letterlocklaw3_TermParts.mono_l k
  unfold letterlocklaw3_TermParts.f
  repeat' first
      | (with_reducible exact ih0 _ _ _ _ _)
      | (with_reducible exact ih1 _ _ _ _ _)
      | (with_reducible exact ih2 _ _ _ _ _ _)
      | (with_reducible exact ih3 _ _ _ _)
      | (with_reducible exact ih4 _ _ _ _ _ _)
      | (with_reducible exact letterlocklaw3_grown.mono _ _)
      | (with_reducible exact letterlocklaw3_shown.mono _)
      | (with_reducible exact term_OfAtom.mono _ _)
      | (with_reducible exact term_OfText.mono _ _)
      | (with_reducible exact LeO.refl _)
      | (with_reducible exact LeO.none _)
      | (with_reducible refine LeO.ite ?_ ?_)
      | (with_reducible refine LeO.bind ?_ (fun _ => ?_))
      | exact ih0 _ _ _ _ _
      | exact ih1 _ _ _ _ _
      | exact ih2 _ _ _ _ _ _
      | exact ih3 _ _ _ _
      | exact ih4 _ _ _ _ _ _
      | exact letterlocklaw3_grown.mono _ _
      | exact letterlocklaw3_shown.mono _
      | exact term_OfAtom.mono _ _
      | exact term_OfText.mono _ _
      | exact LeO.none _
      | refine LeO.ite ?_ ?_
      | refine LeO.bind ?_ (fun _ => ?_)
def letterlocklaw3_TermParts.T7 : Bool × List (List Nat × List Nat) := (true, [([], []), ([0], [0]), ([1], [1]), ([2], [2]), ([2], [2]), ([3, 4, 2], [2, 3, 4]), ([2, 5], [2, 5]), ([6, 2], [6]), ([7], [7]), ([7], [7]), ([8, 9, 7], [7, 8, 9]), ([7, 10], [7, 10]), ([11, 7], [11]), ([12], [12]), ([13, 12], [12, 13]), ([12, 14], [12, 14]), ([15, 12], [15]), ([16], [16]), ([17, 16, 16], [16, 17]), ([16], [16]), ([19, 16], [16, 19]), ([18, 20, 16], [16, 18, 20]), ([16, 21], [16, 21])])
def letterlocklaw3_TermParts.B7 : List Nat := [0, 1, 3, 7, 7, 31, 63, 127, 255, 255, 1023, 2047, 4095, 8191, 16383, 32767, 65535, 131071, 262143, 131071, 655359, 2097151, 4194303]
theorem letterlocklaw3_TermParts.tab7 : rtab .any (opsOf Try.f9 7) = letterlocklaw3_TermParts.T7 := by kernel_rfl
theorem letterlocklaw3_TermParts.bits7 : waitsOk letterlocklaw3_TermParts.T7.2 letterlocklaw3_TermParts.B7 = true := by kernel_rfl
set_option maxHeartbeats 8000000 in
set_option maxRecDepth 100000 in
theorem letterlocklaw3_TermParts.calls (k : Nat) (A0 : Option Addr) (c0 : Nat) (l0 : List Int) (a1 : ByteArray) (a2 : Int) (r : Bool) (w : World) (hr0 : Kd.C (Kd.int .i64) w A0 l0.length l0) (hc0 : l0.length ≤ c0) (h : letterlocklaw3_TermParts.f k l0 a1 a2 = some r) :
    Calls Try.prog 9 #[.slice A0 l0.length c0, .string a1, .int .i64 a2] w fun e w' => e = .returned (.bool r) ∧ Below w.heap.size w w' := by
  have HR0 := Aside0.mk hr0
  have HC0 := Aside0.mk hc0
  clear hr0 hc0
  have HB := Aside0.mk (Below.refl w.heap.size w)
  have H : ((letterlocklaw3_shown.f k).bind fun t463 => (if t463 = true then (letterlocklaw3_TermParts.j0 k l0 a1 a2 t463 (decide ((a1.size : Int) > 2000))) else (letterlocklaw3_TermParts.j0 k l0 a1 a2 t463 true))) = some r := h
  clear h
  replace H := Option.bind_eq_some_iff.mp H
  obtain ⟨t463, A40, H⟩ := H
  replace H : (if t463 = true then (letterlocklaw3_TermParts.j0 k l0 a1 a2 t463 (decide ((a1.size : Int) > 2000))) else (letterlocklaw3_TermParts.j0 k l0 a1 a2 t463 true)) = some r := H
  have A4 := Aside0.mk A40
  clear A40
  have HC5 := Aside0.mk H
  clear H
  go_enter Try.func9, Try.ntmps9
  go_upto_region 2 with (first | ((with_reducible refine gate_callee (f := 10) rfl ?_); refine goesL_ (some 26) rfl rfl Try.func10 (by kernel_rfl) rfl #[] rfl (by (try simp only [List.map_toArray, List.map_cons, List.map_nil]); first | done | rfl | (simp only [List.length_drop, List.length_take]; rfl)) ?_; (with_reducible refine (letterlocklaw3_shown.calls k  t463 _ A4.out).mono ?_); rintro e w6 ⟨rfl, hb⟩; refine ⟨_, rfl, ?_⟩; have n0_ := Aside0.mk (below_step (by repeat (first | (with_reducible first | exact HB.out | apply below_alloc | apply pw_below_drewN | apply below_drew1) | exact HB.out)) hb); clear HB; have HB := n0_; clear n0_; (try clear hb); (try clear hb2); (try clear hk); (try clear hi)))
  (try simp only [Act.put, List.setIfInBounds_toArray, List.set_cons_zero, List.set_cons_succ])
  go_cut [33] (fun v33 wc => ∃ (kq : Nat) (x33_4 : Bool), v33 = .bool x33_4 ∧ Aside0 (letterlocklaw3_TermParts.j0 kq l0 a1 a2 t463 x33_4 = some r) ∧ Aside0 (kq ≤ k) ∧ Aside0 (Below w.heap.size w wc))
  case first => as_aux_lemma =>
    have H := HC5.out
    clear HC5
    by_cases c7 : t463 = true
    · subst c7
      have H1 : (letterlocklaw3_TermParts.j0 k l0 a1 a2 true (decide ((a1.size : Int) > 2000))) = some r := by rw [if_pos rfl] at H; exact H
      clear H
      have H := H1
      clear H1
      have H' := Aside0.mk H
      clear H
      go_wp2
      go_meet
      case rel => exact ⟨_, (decide ((a1.size : Int) > 2000)), (by first | rfl | (simp; done) | (simp [*]; done) | (simp; exact isEmpty_ne _)), H', ⟨by first | omega | exact Nat.le_refl _⟩, ⟨by repeat (first | (with_reducible first | exact HB.out | apply below_alloc | apply pw_below_drewN | apply below_drew1) | exact HB.out)⟩⟩
    · replace c7 := Bool.eq_false_iff.mpr c7
      subst c7
      have H1 : (letterlocklaw3_TermParts.j0 k l0 a1 a2 false true) = some r := by rw [if_neg (show ¬ (false = true) by decide)] at H; exact H
      clear H
      have H := H1
      clear H1
      have H' := Aside0.mk H
      clear H
      go_wp2
      go_meet
      case rel => exact ⟨_, (true), (by first | rfl | (simp; done) | (simp [*]; done) | (simp; exact isEmpty_ne _)), H', ⟨by first | omega | exact Nat.le_refl _⟩, ⟨by repeat (first | (with_reducible first | exact HB.out | apply below_alloc | apply pw_below_drewN | apply below_drew1) | exact HB.out)⟩⟩
  case rest => as_aux_lemma =>
    clear HC5
    try clear c1
    try clear p2
    try clear c7
    obtain ⟨kq, x33_4, rfl, HA, HJ4, HB⟩ := hcut
    cases kq with
    | zero => exact absurd HA.out (by simp [letterlocklaw3_TermParts.j0])
    | succ kj4 =>
      have H := HA.out
      clear HA
      simp only [letterlocklaw3_TermParts.j0] at H
      by_cases c8 : x33_4 = true
      · subst c8
        have H1 : (some t463) = some r := by rw [if_pos rfl] at H; exact H
        clear H
        have H := H1
        clear H1
        obtain rfl := Option.some.inj H
        go_wp2
        go_ret
        exact ⟨by first | rfl | (simp [errW_none, errW_some] <;> rfl) | (simp [*, errW_none, errW_some] <;> rfl), by repeat (first | (with_reducible first | exact HB.out | apply below_alloc | apply pw_below_drewN | apply below_drew1) | exact HB.out)⟩
      · replace c8 := Bool.eq_false_iff.mpr c8
        subst c8
        have H1 : ((letterlocklaw3_grown.f kj4 l0).bind fun t464 => (if t464.size + a1.size ≤ 9223372036854775807 then ((term_Read.f (t464 ++ a1)).bind fun bt465 => ((term_Parts.f t464).bind fun bt468 => (if bt465.2.2 = 0 then (if bt465.1.toList = t464.toList then (if bt465.2.1.toList = a1.toList then (if bt468.2 = 0 then ((term_Kind.f t464).bind fun t472 => (if 0 < (t464.size : Int) then (letterlocklaw3_TermParts.j1 kj4 a1 a2 t464 bt468.1 (t472 != (bt t464 0))) else (none))) else (letterlocklaw3_TermParts.j1 kj4 a1 a2 t464 bt468.1 true)) else (letterlocklaw3_TermParts.j1 kj4 a1 a2 t464 bt468.1 true)) else (letterlocklaw3_TermParts.j1 kj4 a1 a2 t464 bt468.1 true)) else (letterlocklaw3_TermParts.j1 kj4 a1 a2 t464 bt468.1 true)))) else (none))) = some r := by rw [if_neg (show ¬ (false = true) by decide)] at H; exact H
        clear H
        have H := H1
        clear H1
        replace H := Option.bind_eq_some_iff.mp H
        obtain ⟨t464, A90, H⟩ := H
        replace H : (if t464.size + a1.size ≤ 9223372036854775807 then ((term_Read.f (t464 ++ a1)).bind fun bt465 => ((term_Parts.f t464).bind fun bt468 => (if bt465.2.2 = 0 then (if bt465.1.toList = t464.toList then (if bt465.2.1.toList = a1.toList then (if bt468.2 = 0 then ((term_Kind.f t464).bind fun t472 => (if 0 < (t464.size : Int) then (letterlocklaw3_TermParts.j1 kj4 a1 a2 t464 bt468.1 (t472 != (bt t464 0))) else (none))) else (letterlocklaw3_TermParts.j1 kj4 a1 a2 t464 bt468.1 true)) else (letterlocklaw3_TermParts.j1 kj4 a1 a2 t464 bt468.1 true)) else (letterlocklaw3_TermParts.j1 kj4 a1 a2 t464 bt468.1 true)) else (letterlocklaw3_TermParts.j1 kj4 a1 a2 t464 bt468.1 true)))) else (none)) = some r := H
        have A9 := Aside0.mk A90
        clear A90
        by_cases c10 : t464.size + a1.size ≤ 9223372036854775807
        · rw [if_pos c10] at H
          have c10b0 := eq_true c10
          have c10b1 : decide (t464.size + a1.size ≤ 9223372036854775807) = true := decide_eq_true c10
          try have c10b2 : (9223372036854775807 < t464.size + a1.size) = False := eq_false (Nat.not_lt.2 c10)
          replace H := Option.bind_eq_some_iff.mp H
          obtain ⟨⟨t465, t466, t467⟩, A110, H⟩ := H
          replace H : ((term_Parts.f t464).bind fun bt468 => (if t467 = 0 then (if t465.toList = t464.toList then (if t466.toList = a1.toList then (if bt468.2 = 0 then ((term_Kind.f t464).bind fun t472 => (if 0 < (t464.size : Int) then (letterlocklaw3_TermParts.j1 kj4 a1 a2 t464 bt468.1 (t472 != (bt t464 0))) else (none))) else (letterlocklaw3_TermParts.j1 kj4 a1 a2 t464 bt468.1 true)) else (letterlocklaw3_TermParts.j1 kj4 a1 a2 t464 bt468.1 true)) else (letterlocklaw3_TermParts.j1 kj4 a1 a2 t464 bt468.1 true)) else (letterlocklaw3_TermParts.j1 kj4 a1 a2 t464 bt468.1 true))) = some r := H
          have A11 := Aside0.mk A110
          clear A110
          replace H := Option.bind_eq_some_iff.mp H
          obtain ⟨⟨t468, t469⟩, A120, H⟩ := H
          replace H : (if t467 = 0 then (if t465.toList = t464.toList then (if t466.toList = a1.toList then (if t469 = 0 then ((term_Kind.f t464).bind fun t472 => (if 0 < (t464.size : Int) then (letterlocklaw3_TermParts.j1 kj4 a1 a2 t464 t468 (t472 != (bt t464 0))) else (none))) else (letterlocklaw3_TermParts.j1 kj4 a1 a2 t464 t468 true)) else (letterlocklaw3_TermParts.j1 kj4 a1 a2 t464 t468 true)) else (letterlocklaw3_TermParts.j1 kj4 a1 a2 t464 t468 true)) else (letterlocklaw3_TermParts.j1 kj4 a1 a2 t464 t468 true)) = some r := H
          have A12 := Aside0.mk A120
          clear A120
          have HC13 := Aside0.mk H
          clear H
          go_upto_region 7 with (first | ((with_reducible refine gate_callee (f := 11) rfl ?_); refine goesL_ (some 36) rfl rfl Try.func11 (by kernel_rfl) rfl #[.slice A0 l0.length c0] rfl (by (try simp only [List.map_toArray, List.map_cons, List.map_nil]); first | done | rfl | (simp only [List.length_drop, List.length_take]; rfl)) ?_; (with_reducible refine (letterlocklaw3_grown.calls kj4 _ _ l0 t464 _ ?side1 ?side2 A9.out).mono ?_); (case side1 => repeat (first | exact (Kd.C_below HR0.out HB.out) | (with_reducible refine Kd.C_alloc ?_ _) | (with_reducible refine Kd.C_drewN ?_ _) | (with_reducible refine Kd.C_drew ?_))); (case side2 => exact HC0.out); rintro e w14 ⟨rfl, hb⟩; refine ⟨_, rfl, ?_⟩; have n0_ := Aside0.mk (below_step (by repeat (first | (with_reducible first | exact HB.out | apply below_alloc | apply pw_below_drewN | apply below_drew1) | exact HB.out)) hb); clear HB; have HB := n0_; clear n0_; (try clear hb); (try clear hb2); (try clear hk); (try clear hi)) | ((with_reducible refine gate_callee (f := 32) rfl ?_); refine goesL_ (some 41) rfl rfl Try.func32 (by kernel_rfl) rfl #[.string (t464 ++ a1)] rfl (by (try simp only [List.map_toArray, List.map_cons, List.map_nil]); first | done | rfl | (simp only [List.length_drop, List.length_take]; rfl)) ?_; (with_reducible refine (term_Read.calls (t464 ++ a1) t465 t466 t467 _ A11.out).mono ?_); rintro e w15 ⟨rfl, hb⟩; refine ⟨_, rfl, ?_⟩; have n0_ := Aside0.mk (below_step (by repeat (first | (with_reducible first | exact HB.out | apply below_alloc | apply pw_below_drewN | apply below_drew1) | exact HB.out)) hb); clear HB; have HB := n0_; clear n0_; (try clear hb); (try clear hb2); (try clear hk); (try clear hi)) | ((with_reducible refine gate_callee (f := 23) rfl ?_); refine goesL_ (some 47) rfl rfl Try.func23 (by kernel_rfl) rfl #[.string t464] rfl (by (try simp only [List.map_toArray, List.map_cons, List.map_nil]); first | done | rfl | (simp only [List.length_drop, List.length_take]; rfl)) ?_; (with_reducible refine (term_Parts.calls t464 t468 t469 _ A12.out).mono ?_); rintro e w16 ⟨v470, rfl, ho0, hb⟩; refine ⟨_, rfl, ?_⟩; have n0_ := Aside0.mk (Kd.R_lower ho0 (below_size (by repeat (first | (with_reducible first | exact HB.out | apply below_alloc | apply pw_below_drewN | apply below_drew1) | exact HB.out)))); have n1_ := Aside0.mk (below_step (by repeat (first | (with_reducible first | exact HB.out | apply below_alloc | apply pw_below_drewN | apply below_drew1) | exact HB.out)) hb); clear HB; have HO471 := n0_; have HB := n1_; clear n0_ n1_; (try clear hb); (try clear hb2); (try clear hk); (try clear hi); (try clear ho0)))
          (try simp only [Act.put, List.setIfInBounds_toArray, List.set_cons_zero, List.set_cons_succ])
          go_cut [72] (fun v72 wc => ∃ (kq : Nat) (x72_12 : Bool), v72 = .bool x72_12 ∧ Aside0 (letterlocklaw3_TermParts.j1 kq a1 a2 t464 t468 x72_12 = some r) ∧ Aside0 (kq ≤ kj4) ∧ Aside0 (Kd.R Kd.string 9 wc w.heap.size (fun _ => True) v470 t468) ∧ Aside0 (Below w.heap.size w wc))
          case first => as_aux_lemma =>
            have H := HC13.out
            clear HC13
            by_cases c17 : t467 = 0
            · rw [if_pos c17] at H
              have c17b0 : (t467 == 0) = true := beq_iff_eq.mpr c17
              have c17b1 : (t467 != 0) = false := bne_eq_false_iff_eq.mpr c17
              clear c17
              (first | rw [c17b0] | (simp only [i64_w, i32_w]; rw [c17b0]) | skip)
              by_cases c18 : t465.toList = t464.toList
              · rw [if_pos c18] at H
                have c18b0 : (t465.toList == t464.toList) = true := beq_iff_eq.mpr c18
                have c18b1 : (t465.toList != t464.toList) = false := bne_eq_false_iff_eq.mpr c18
                clear c18
                by_cases c19 : t466.toList = a1.toList
                · rw [if_pos c19] at H
                  have c19b0 : (t466.toList == a1.toList) = true := beq_iff_eq.mpr c19
                  have c19b1 : (t466.toList != a1.toList) = false := bne_eq_false_iff_eq.mpr c19
                  clear c19
                  by_cases c20 : t469 = 0
                  · rw [if_pos c20] at H
                    have c20b0 : (t469 == 0) = true := beq_iff_eq.mpr c20
                    have c20b1 : (t469 != 0) = false := bne_eq_false_iff_eq.mpr c20
                    clear c20
                    replace H := Option.bind_eq_some_iff.mp H
                    obtain ⟨t472, A210, H⟩ := H
                    replace H : (if 0 < (t464.size : Int) then (letterlocklaw3_TermParts.j1 kj4 a1 a2 t464 t468 (t472 != (bt t464 0))) else (none)) = some r := H
                    have A21 := Aside0.mk A210
                    clear A210
                    by_cases c22 : 0 < (t464.size : Int)
                    · rw [if_pos c22] at H
                      have c22b0 : decide (0 < (t464.size : Int)) = true := decide_eq_true c22
                      have c22b1 : decide (0 < t464.size) = true := decide_eq_true (by omega)
                      clear c22
                      have H' := Aside0.mk H
                      clear H
                      try go_wp2
                      have n0_ := Aside0.mk (Kd.R_drew HO471.out)
                      have n1_ := Aside0.mk (below_drew1 HB.out)
                      clear HO471
                      clear HB
                      have HO471 := n0_
                      have HB := n1_
                      clear n0_ n1_
                      have p23 : 0 ≤ (0 : Int) := (by omega)
                      have q23 : 0 < t464.size := (by have : (0 : Int) < (t464.size : Int) := of_decide_eq_true (by first | (with_reducible assumption) | assumption); omega)
                      have hx23 : ∀ h : 0 < t464.size, ((t464[0]'h).toNat : Int) = bt t464 0 := bt_at t464 0
                      clear p23
                      have qi23 : (0 < (t464.size : Int)) = True := eq_true (of_decide_eq_true (by first | (with_reducible assumption) | assumption))
                      replace q23 := eq_true q23
                      refine start_ (n := 23) (S := fun w' => True) (ds := []) #[false, false, false, false, false, false, false, false, false, false, false, false, false, false, false, false, false, false, false, false, false, false, false] (by kernel_rfl) rfl rfl trivial (fun hHeld => ?_); refine with_tabW letterlocklaw3_TermParts.tab7 letterlocklaw3_TermParts.bits7 (fun HT_ HW_ => ?_)
                      generalize w16.drew = w24 at HO471 HB hHeld ⊢
                      refine pure_ (i := 0) (N := some 50) (v := ?_) (a' := ?_) #[true, false, false, false, false, false, false, false, false, false, false, false, false, false, false, false, false, false, false, false, false, false, false] rfl rfl (any_of HT_.out (by kernel_rfl)) (fun _ _ _ h => h) (Or.inl ⟨by rfl, ?_⟩) ?_ ?_
                      rotate_left
                      · intro w'
                        go_simp
                        with_reducible rfl
                      rotate_left
                      · simp only [Act.put, List.setIfInBounds_toArray, List.set_cons_zero, List.set_cons_succ, i64_w, i32_w]
                        rfl
                      refine pure_ (i := 1) (N := some 51) (v := ?_) (a' := ?_) #[true, true, false, false, false, false, false, false, false, false, false, false, false, false, false, false, false, false, false, false, false, false, false] rfl rfl (any_of HT_.out (by kernel_rfl)) (fun _ _ _ h => h) (Or.inl ⟨by rfl, ?_⟩) ?_ ?_
                      rotate_left
                      · intro w'
                        go_simp
                        with_reducible rfl
                      rotate_left
                      · simp only [Act.put, List.setIfInBounds_toArray, List.set_cons_zero, List.set_cons_succ, i64_w, i32_w]
                        rfl
                      refine pure_ (i := 2) (N := some 52) (v := ?_) (a' := ?_) #[true, true, true, false, false, false, false, false, false, false, false, false, false, false, false, false, false, false, false, false, false, false, false] rfl rfl (any_of HT_.out (by kernel_rfl)) (fun _ _ _ h => h) (Or.inl ⟨by rfl, ?_⟩) ?_ ?_
                      rotate_left
                      · intro w'
                        go_simp
                        with_reducible rfl
                      rotate_left
                      · simp only [Act.put, List.setIfInBounds_toArray, List.set_cons_zero, List.set_cons_succ, i64_w, i32_w]
                        rfl
                      refine pure_ (i := 3) (N := some 53) (v := ?_) (a' := ?_) #[true, true, true, true, false, false, false, false, false, false, false, false, false, false, false, false, false, false, false, false, false, false, false] rfl rfl (any_of HT_.out (by kernel_rfl)) (fun _ _ _ h => h) (Or.inl ⟨by rfl, ?_⟩) ?_ ?_
                      rotate_left
                      · intro w'
                        go_simp
                        with_reducible rfl
                      rotate_left
                      · simp only [Act.put, List.setIfInBounds_toArray, List.set_cons_zero, List.set_cons_succ, i64_w, i32_w]
                        rfl
                      refine pure_ (i := 4) (N := some 54) (v := ?_) (a' := ?_) #[true, true, true, true, true, false, false, false, false, false, false, false, false, false, false, false, false, false, false, false, false, false, false] rfl rfl (any_of HT_.out (by kernel_rfl)) (fun _ _ _ h => h) (Or.inl ⟨by rfl, ?_⟩) ?_ ?_
                      rotate_left
                      · intro w'
                        go_simp
                        with_reducible rfl
                      rotate_left
                      · simp only [Act.put, List.setIfInBounds_toArray, List.set_cons_zero, List.set_cons_succ, i64_w, i32_w]
                        rfl
                      refine pure_ (i := 5) (N := some 55) (v := ?_) (a' := ?_) #[true, true, true, true, true, true, false, false, false, false, false, false, false, false, false, false, false, false, false, false, false, false, false] rfl rfl (any_of HT_.out (by kernel_rfl)) (fun _ _ _ h => h) (Or.inl ⟨by rfl, ?_⟩) ?_ ?_
                      rotate_left
                      · intro w'
                        go_simp
                        with_reducible rfl
                      rotate_left
                      · simp only [Act.put, List.setIfInBounds_toArray, List.set_cons_zero, List.set_cons_succ, i64_w, i32_w]
                        rfl
                      refine pure_ (i := 6) (N := some 56) (v := ?_) (a' := ?_) #[true, true, true, true, true, true, true, false, false, false, false, false, false, false, false, false, false, false, false, false, false, false, false] rfl rfl (any_of HT_.out (by kernel_rfl)) (fun _ _ _ h => h) (Or.inl ⟨by rfl, ?_⟩) ?_ ?_
                      rotate_left
                      · intro w'
                        go_simp
                        with_reducible rfl
                      rotate_left
                      · simp only [Act.put, List.setIfInBounds_toArray, List.set_cons_zero, List.set_cons_succ, i64_w, i32_w]
                        rfl
                      refine pure_ (i := 7) (N := some 57) (v := ?_) (a' := ?_) #[true, true, true, true, true, true, true, true, false, false, false, false, false, false, false, false, false, false, false, false, false, false, false] rfl rfl (any_of HT_.out (by kernel_rfl)) (fun _ _ _ h => h) (Or.inl ⟨by rfl, ?_⟩) ?_ ?_
                      rotate_left
                      · intro w'
                        go_simp
                        with_reducible rfl
                      rotate_left
                      · simp only [Act.put, List.setIfInBounds_toArray, List.set_cons_zero, List.set_cons_succ, i64_w, i32_w]
                        rfl
                      refine pure_ (i := 8) (N := some 58) (v := ?_) (a' := ?_) #[true, true, true, true, true, true, true, true, true, false, false, false, false, false, false, false, false, false, false, false, false, false, false] rfl rfl (any_of HT_.out (by kernel_rfl)) (fun _ _ _ h => h) (Or.inl ⟨by rfl, ?_⟩) ?_ ?_
                      rotate_left
                      · intro w'
                        go_simp
                        with_reducible rfl
                      rotate_left
                      · simp only [Act.put, List.setIfInBounds_toArray, List.set_cons_zero, List.set_cons_succ, i64_w, i32_w]
                        rfl
                      refine pure_ (i := 9) (N := some 59) (v := ?_) (a' := ?_) #[true, true, true, true, true, true, true, true, true, true, false, false, false, false, false, false, false, false, false, false, false, false, false] rfl rfl (any_of HT_.out (by kernel_rfl)) (fun _ _ _ h => h) (Or.inl ⟨by rfl, ?_⟩) ?_ ?_
                      rotate_left
                      · intro w'
                        go_simp
                        with_reducible rfl
                      rotate_left
                      · simp only [Act.put, List.setIfInBounds_toArray, List.set_cons_zero, List.set_cons_succ, i64_w, i32_w]
                        rfl
                      refine pure_ (i := 10) (N := some 60) (v := ?_) (a' := ?_) #[true, true, true, true, true, true, true, true, true, true, true, false, false, false, false, false, false, false, false, false, false, false, false] rfl rfl (any_of HT_.out (by kernel_rfl)) (fun _ _ _ h => h) (Or.inl ⟨by rfl, ?_⟩) ?_ ?_
                      rotate_left
                      · intro w'
                        go_simp
                        with_reducible rfl
                      rotate_left
                      · simp only [Act.put, List.setIfInBounds_toArray, List.set_cons_zero, List.set_cons_succ, i64_w, i32_w]
                        rfl
                      refine pure_ (i := 11) (N := some 61) (v := ?_) (a' := ?_) #[true, true, true, true, true, true, true, true, true, true, true, true, false, false, false, false, false, false, false, false, false, false, false] rfl rfl (any_of HT_.out (by kernel_rfl)) (fun _ _ _ h => h) (Or.inl ⟨by rfl, ?_⟩) ?_ ?_
                      rotate_left
                      · intro w'
                        go_simp
                        with_reducible rfl
                      rotate_left
                      · simp only [Act.put, List.setIfInBounds_toArray, List.set_cons_zero, List.set_cons_succ, i64_w, i32_w]
                        rfl
                      refine pure_ (i := 12) (N := some 62) (v := ?_) (a' := ?_) #[true, true, true, true, true, true, true, true, true, true, true, true, true, false, false, false, false, false, false, false, false, false, false] rfl rfl (any_of HT_.out (by kernel_rfl)) (fun _ _ _ h => h) (Or.inl ⟨by rfl, ?_⟩) ?_ ?_
                      rotate_left
                      · intro w'
                        go_simp
                        with_reducible rfl
                      rotate_left
                      · simp only [Act.put, List.setIfInBounds_toArray, List.set_cons_zero, List.set_cons_succ, i64_w, i32_w]
                        rfl
                      refine pure_ (i := 13) (N := some 63) (v := ?_) (a' := ?_) #[true, true, true, true, true, true, true, true, true, true, true, true, true, true, false, false, false, false, false, false, false, false, false] rfl rfl (any_of HT_.out (by kernel_rfl)) (fun _ _ _ h => h) (Or.inl ⟨by rfl, ?_⟩) ?_ ?_
                      rotate_left
                      · intro w'
                        go_simp
                        with_reducible rfl
                      rotate_left
                      · simp only [Act.put, List.setIfInBounds_toArray, List.set_cons_zero, List.set_cons_succ, i64_w, i32_w]
                        rfl
                      refine pure_ (i := 14) (N := some 64) (v := ?_) (a' := ?_) #[true, true, true, true, true, true, true, true, true, true, true, true, true, true, true, false, false, false, false, false, false, false, false] rfl rfl (any_of HT_.out (by kernel_rfl)) (fun _ _ _ h => h) (Or.inl ⟨by rfl, ?_⟩) ?_ ?_
                      rotate_left
                      · intro w'
                        go_simp
                        with_reducible rfl
                      rotate_left
                      · simp only [Act.put, List.setIfInBounds_toArray, List.set_cons_zero, List.set_cons_succ, i64_w, i32_w]
                        rfl
                      refine pure_ (i := 15) (N := some 65) (v := ?_) (a' := ?_) #[true, true, true, true, true, true, true, true, true, true, true, true, true, true, true, true, false, false, false, false, false, false, false] rfl rfl (any_of HT_.out (by kernel_rfl)) (fun _ _ _ h => h) (Or.inl ⟨by rfl, ?_⟩) ?_ ?_
                      rotate_left
                      · intro w'
                        go_simp
                        with_reducible rfl
                      rotate_left
                      · simp only [Act.put, List.setIfInBounds_toArray, List.set_cons_zero, List.set_cons_succ, i64_w, i32_w]
                        rfl
                      refine pure_ (i := 16) (N := some 66) (v := ?_) (a' := ?_) #[true, true, true, true, true, true, true, true, true, true, true, true, true, true, true, true, true, false, false, false, false, false, false] rfl rfl (any_of HT_.out (by kernel_rfl)) (fun _ _ _ h => h) (Or.inl ⟨by rfl, ?_⟩) ?_ ?_
                      rotate_left
                      · intro w'
                        go_simp
                        with_reducible rfl
                      rotate_left
                      · simp only [Act.put, List.setIfInBounds_toArray, List.set_cons_zero, List.set_cons_succ, i64_w, i32_w]
                        rfl
                      refine pure_ (i := 17) (N := some 67) (v := ?_) (a' := ?_) #[true, true, true, true, true, true, true, true, true, true, true, true, true, true, true, true, true, true, false, false, false, false, false] rfl rfl (any_of HT_.out (by kernel_rfl)) (fun _ _ _ h => h) (Or.inl ⟨by rfl, ?_⟩) ?_ ?_
                      rotate_left
                      · intro w'
                        go_simp
                        with_reducible rfl
                      rotate_left
                      · simp only [Act.put, List.setIfInBounds_toArray, List.set_cons_zero, List.set_cons_succ, i64_w, i32_w]
                        rfl
                      refine pure_ (i := 19) (N := some 69) (v := ?_) (a' := ?_) #[true, true, true, true, true, true, true, true, true, true, true, true, true, true, true, true, true, true, false, true, false, false, false] rfl rfl (any_of HT_.out (by kernel_rfl)) (fun _ _ _ h => h) (Or.inl ⟨by rfl, ?_⟩) ?_ ?_
                      rotate_left
                      · intro w'
                        go_simp
                        with_reducible rfl
                      rotate_left
                      · simp only [Act.put, List.setIfInBounds_toArray, List.set_cons_zero, List.set_cons_succ, i64_w, i32_w]
                        rfl
                      refine take_ (i := 20) (N := some 70) (v := ?_) (a' := ?_) #[true, true, true, true, true, true, true, true, true, true, true, true, true, true, true, true, true, true, false, true, true, false, false] rfl rfl (take_ofW HT_.out HW_.out (by kernel_rfl)) (fun _ _ _ h => h) (Or.inl ⟨by rfl, ?_⟩) hHeld ?_ ?_
                      rotate_left
                      · intro w' _
                        go_simp
                        with_reducible rfl
                      rotate_left
                      · simp only [Act.put, List.setIfInBounds_toArray, List.set_cons_zero, List.set_cons_succ, i64_w, i32_w]
                        rfl
                      refine one_ (i := 18) (N := some 68) #[true, true, true, true, true, true, true, true, true, true, true, true, true, true, true, true, true, true, true, true, true, false, false] rfl rfl (one_of HT_.out (by kernel_rfl)) (by decide) (fun K hK => ?_)
                      refine goes_ Try.func15 (by kernel_rfl) rfl #[.string t464] (by rfl) rfl rfl (by (try simp only [List.map_toArray, List.map_cons, List.map_nil]); first | done | rfl | (simp only [List.length_drop, List.length_take]; rfl)) ?_
                      with_reducible refine (term_Kind.calls t464 t472 _ A21.out).mono ?_
                      rintro e w25 ⟨rfl, hb⟩
                      refine ⟨_, rfl, ?_⟩
                      have n0_ := Aside0.mk (Kd.R_below (by (with_reducible repeat (first | apply Kd.R_alloc | apply Kd.R_drewN | apply Kd.R_drew)); exact HO471.out) hb)
                      have n1_ := Aside0.mk (below_step (by repeat (first | (with_reducible first | exact HB.out | apply below_alloc | apply pw_below_drewN | apply below_drew1) | exact HB.out)) hb)
                      clear HO471
                      clear HB
                      have HO471 := n0_
                      have HB := n1_
                      clear n0_ n1_
                      (try clear hb)
                      (try clear hb2)
                      (try clear hk)
                      (try clear hi)
                      refine hK.out _ _ trivial (fun hHeld => ?_)
                      clear hK K
                      refine norm_ (a' := ?_) ?_ ?_
                      rotate_left
                      · show Act.put _ (some 68) _ = _
                        simp only [Act.put, List.setIfInBounds_toArray, List.set_cons_zero, List.set_cons_succ, i64_w, i32_w]
                        rfl
                      refine pure_ (i := 21) (N := some 71) (v := ?_) (a' := ?_) #[true, true, true, true, true, true, true, true, true, true, true, true, true, true, true, true, true, true, true, true, true, true, false] rfl rfl (any_of HT_.out (by kernel_rfl)) (fun _ _ _ h => h) (Or.inl ⟨by rfl, ?_⟩) ?_ ?_
                      rotate_left
                      · intro w'
                        go_simp
                        with_reducible rfl
                      rotate_left
                      · simp only [Act.put, List.setIfInBounds_toArray, List.set_cons_zero, List.set_cons_succ, i64_w, i32_w]
                        rfl
                      refine pure_ (i := 22) (N := some 72) (v := ?_) (a' := ?_) #[true, true, true, true, true, true, true, true, true, true, true, true, true, true, true, true, true, true, true, true, true, true, true] rfl rfl (any_of HT_.out (by kernel_rfl)) (fun _ _ _ h => h) (Or.inl ⟨by rfl, ?_⟩) ?_ ?_
                      rotate_left
                      · intro w'
                        go_simp
                        with_reducible rfl
                      rotate_left
                      · simp only [Act.put, List.setIfInBounds_toArray, List.set_cons_zero, List.set_cons_succ, i64_w, i32_w]
                        rfl
                      refine done_ (done_of HT_.out (by kernel_rfl)) ?_
                      try go_wp2
                      go_meet
                      case rel => exact ⟨_, ((t472 != (bt t464 0))), (by first | rfl | (simp; done) | (simp [*]; done) | (simp; exact isEmpty_ne _)), H', ⟨by have := HJ4.out; first | omega | exact Nat.le_refl _⟩, ⟨by (with_reducible repeat (first | apply Kd.R_alloc | apply Kd.R_drewN | apply Kd.R_drew)); exact HO471.out⟩, ⟨by repeat (first | (with_reducible first | exact HB.out | apply below_alloc | apply pw_below_drewN | apply below_drew1) | exact HB.out)⟩⟩
                    · rw [if_neg c22] at H
                      exact absurd H (by simp)
                  · rw [if_neg c20] at H
                    have c20b0 : (t469 == 0) = false := beq_eq_false_iff_ne.mpr c20
                    have c20b1 : (t469 != 0) = true := bne_iff_ne.mpr c20
                    have H' := Aside0.mk H
                    clear H
                    try go_wp2
                    have n0_ := Aside0.mk (Kd.R_drew HO471.out)
                    have n1_ := Aside0.mk (below_drew1 HB.out)
                    clear HO471
                    clear HB
                    have HO471 := n0_
                    have HB := n1_
                    clear n0_ n1_
                    refine start_ (n := 23) (S := fun w' => True) (ds := []) #[false, false, false, false, false, false, false, false, false, false, false, false, false, false, false, false, false, false, false, false, false, false, false] (by kernel_rfl) rfl rfl trivial (fun hHeld => ?_); refine with_tabW letterlocklaw3_TermParts.tab7 letterlocklaw3_TermParts.bits7 (fun HT_ HW_ => ?_)
                    generalize w16.drew = w26 at HO471 HB hHeld ⊢
                    refine pure_ (i := 0) (N := some 50) (v := ?_) (a' := ?_) #[true, false, false, false, false, false, false, false, false, false, false, false, false, false, false, false, false, false, false, false, false, false, false] rfl rfl (any_of HT_.out (by kernel_rfl)) (fun _ _ _ h => h) (Or.inl ⟨by rfl, ?_⟩) ?_ ?_
                    rotate_left
                    · intro w'
                      go_simp
                      with_reducible rfl
                    rotate_left
                    · simp only [Act.put, List.setIfInBounds_toArray, List.set_cons_zero, List.set_cons_succ, i64_w, i32_w]
                      rfl
                    refine pure_ (i := 1) (N := some 51) (v := ?_) (a' := ?_) #[true, true, false, false, false, false, false, false, false, false, false, false, false, false, false, false, false, false, false, false, false, false, false] rfl rfl (any_of HT_.out (by kernel_rfl)) (fun _ _ _ h => h) (Or.inl ⟨by rfl, ?_⟩) ?_ ?_
                    rotate_left
                    · intro w'
                      go_simp
                      with_reducible rfl
                    rotate_left
                    · simp only [Act.put, List.setIfInBounds_toArray, List.set_cons_zero, List.set_cons_succ, i64_w, i32_w]
                      rfl
                    refine pure_ (i := 2) (N := some 52) (v := ?_) (a' := ?_) #[true, true, true, false, false, false, false, false, false, false, false, false, false, false, false, false, false, false, false, false, false, false, false] rfl rfl (any_of HT_.out (by kernel_rfl)) (fun _ _ _ h => h) (Or.inl ⟨by rfl, ?_⟩) ?_ ?_
                    rotate_left
                    · intro w'
                      go_simp
                      with_reducible rfl
                    rotate_left
                    · simp only [Act.put, List.setIfInBounds_toArray, List.set_cons_zero, List.set_cons_succ, i64_w, i32_w]
                      rfl
                    refine pure_ (i := 3) (N := some 53) (v := ?_) (a' := ?_) #[true, true, true, true, false, false, false, false, false, false, false, false, false, false, false, false, false, false, false, false, false, false, false] rfl rfl (any_of HT_.out (by kernel_rfl)) (fun _ _ _ h => h) (Or.inl ⟨by rfl, ?_⟩) ?_ ?_
                    rotate_left
                    · intro w'
                      go_simp
                      with_reducible rfl
                    rotate_left
                    · simp only [Act.put, List.setIfInBounds_toArray, List.set_cons_zero, List.set_cons_succ, i64_w, i32_w]
                      rfl
                    refine pure_ (i := 4) (N := some 54) (v := ?_) (a' := ?_) #[true, true, true, true, true, false, false, false, false, false, false, false, false, false, false, false, false, false, false, false, false, false, false] rfl rfl (any_of HT_.out (by kernel_rfl)) (fun _ _ _ h => h) (Or.inl ⟨by rfl, ?_⟩) ?_ ?_
                    rotate_left
                    · intro w'
                      go_simp
                      with_reducible rfl
                    rotate_left
                    · simp only [Act.put, List.setIfInBounds_toArray, List.set_cons_zero, List.set_cons_succ, i64_w, i32_w]
                      rfl
                    refine pure_ (i := 5) (N := some 55) (v := ?_) (a' := ?_) #[true, true, true, true, true, true, false, false, false, false, false, false, false, false, false, false, false, false, false, false, false, false, false] rfl rfl (any_of HT_.out (by kernel_rfl)) (fun _ _ _ h => h) (Or.inl ⟨by rfl, ?_⟩) ?_ ?_
                    rotate_left
                    · intro w'
                      go_simp
                      with_reducible rfl
                    rotate_left
                    · simp only [Act.put, List.setIfInBounds_toArray, List.set_cons_zero, List.set_cons_succ, i64_w, i32_w]
                      rfl
                    refine pure_ (i := 6) (N := some 56) (v := ?_) (a' := ?_) #[true, true, true, true, true, true, true, false, false, false, false, false, false, false, false, false, false, false, false, false, false, false, false] rfl rfl (any_of HT_.out (by kernel_rfl)) (fun _ _ _ h => h) (Or.inl ⟨by rfl, ?_⟩) ?_ ?_
                    rotate_left
                    · intro w'
                      go_simp
                      with_reducible rfl
                    rotate_left
                    · simp only [Act.put, List.setIfInBounds_toArray, List.set_cons_zero, List.set_cons_succ, i64_w, i32_w]
                      rfl
                    refine pure_ (i := 7) (N := some 57) (v := ?_) (a' := ?_) #[true, true, true, true, true, true, true, true, false, false, false, false, false, false, false, false, false, false, false, false, false, false, false] rfl rfl (any_of HT_.out (by kernel_rfl)) (fun _ _ _ h => h) (Or.inl ⟨by rfl, ?_⟩) ?_ ?_
                    rotate_left
                    · intro w'
                      go_simp
                      with_reducible rfl
                    rotate_left
                    · simp only [Act.put, List.setIfInBounds_toArray, List.set_cons_zero, List.set_cons_succ, i64_w, i32_w]
                      rfl
                    refine pure_ (i := 8) (N := some 58) (v := ?_) (a' := ?_) #[true, true, true, true, true, true, true, true, true, false, false, false, false, false, false, false, false, false, false, false, false, false, false] rfl rfl (any_of HT_.out (by kernel_rfl)) (fun _ _ _ h => h) (Or.inl ⟨by rfl, ?_⟩) ?_ ?_
                    rotate_left
                    · intro w'
                      go_simp
                      with_reducible rfl
                    rotate_left
                    · simp only [Act.put, List.setIfInBounds_toArray, List.set_cons_zero, List.set_cons_succ, i64_w, i32_w]
                      rfl
                    refine pure_ (i := 9) (N := some 59) (v := ?_) (a' := ?_) #[true, true, true, true, true, true, true, true, true, true, false, false, false, false, false, false, false, false, false, false, false, false, false] rfl rfl (any_of HT_.out (by kernel_rfl)) (fun _ _ _ h => h) (Or.inl ⟨by rfl, ?_⟩) ?_ ?_
                    rotate_left
                    · intro w'
                      go_simp
                      with_reducible rfl
                    rotate_left
                    · simp only [Act.put, List.setIfInBounds_toArray, List.set_cons_zero, List.set_cons_succ, i64_w, i32_w]
                      rfl
                    refine pure_ (i := 10) (N := some 60) (v := ?_) (a' := ?_) #[true, true, true, true, true, true, true, true, true, true, true, false, false, false, false, false, false, false, false, false, false, false, false] rfl rfl (any_of HT_.out (by kernel_rfl)) (fun _ _ _ h => h) (Or.inl ⟨by rfl, ?_⟩) ?_ ?_
                    rotate_left
                    · intro w'
                      go_simp
                      with_reducible rfl
                    rotate_left
                    · simp only [Act.put, List.setIfInBounds_toArray, List.set_cons_zero, List.set_cons_succ, i64_w, i32_w]
                      rfl
                    refine pure_ (i := 11) (N := some 61) (v := ?_) (a' := ?_) #[true, true, true, true, true, true, true, true, true, true, true, true, false, false, false, false, false, false, false, false, false, false, false] rfl rfl (any_of HT_.out (by kernel_rfl)) (fun _ _ _ h => h) (Or.inl ⟨by rfl, ?_⟩) ?_ ?_
                    rotate_left
                    · intro w'
                      go_simp
                      with_reducible rfl
                    rotate_left
                    · simp only [Act.put, List.setIfInBounds_toArray, List.set_cons_zero, List.set_cons_succ, i64_w, i32_w]
                      rfl
                    refine pure_ (i := 12) (N := some 62) (v := ?_) (a' := ?_) #[true, true, true, true, true, true, true, true, true, true, true, true, true, false, false, false, false, false, false, false, false, false, false] rfl rfl (any_of HT_.out (by kernel_rfl)) (fun _ _ _ h => h) (Or.inl ⟨by rfl, ?_⟩) ?_ ?_
                    rotate_left
                    · intro w'
                      go_simp
                      with_reducible rfl
                    rotate_left
                    · simp only [Act.put, List.setIfInBounds_toArray, List.set_cons_zero, List.set_cons_succ, i64_w, i32_w]
                      rfl
                    refine pure_ (i := 13) (N := some 63) (v := ?_) (a' := ?_) #[true, true, true, true, true, true, true, true, true, true, true, true, true, true, false, false, false, false, false, false, false, false, false] rfl rfl (any_of HT_.out (by kernel_rfl)) (fun _ _ _ h => h) (Or.inl ⟨by rfl, ?_⟩) ?_ ?_
                    rotate_left
                    · intro w'
                      go_simp
                      with_reducible rfl
                    rotate_left
                    · simp only [Act.put, List.setIfInBounds_toArray, List.set_cons_zero, List.set_cons_succ, i64_w, i32_w]
                      rfl
                    refine pure_ (i := 14) (N := some 64) (v := ?_) (a' := ?_) #[true, true, true, true, true, true, true, true, true, true, true, true, true, true, true, false, false, false, false, false, false, false, false] rfl rfl (any_of HT_.out (by kernel_rfl)) (fun _ _ _ h => h) (Or.inl ⟨by rfl, ?_⟩) ?_ ?_
                    rotate_left
                    · intro w'
                      go_simp
                      with_reducible rfl
                    rotate_left
                    · simp only [Act.put, List.setIfInBounds_toArray, List.set_cons_zero, List.set_cons_succ, i64_w, i32_w]
                      rfl
                    refine pure_ (i := 15) (N := some 65) (v := ?_) (a' := ?_) #[true, true, true, true, true, true, true, true, true, true, true, true, true, true, true, true, false, false, false, false, false, false, false] rfl rfl (any_of HT_.out (by kernel_rfl)) (fun _ _ _ h => h) (Or.inl ⟨by rfl, ?_⟩) ?_ ?_
                    rotate_left
                    · intro w'
                      go_simp
                      with_reducible rfl
                    rotate_left
                    · simp only [Act.put, List.setIfInBounds_toArray, List.set_cons_zero, List.set_cons_succ, i64_w, i32_w]
                      rfl
                    refine pure_ (i := 16) (N := some 66) (v := ?_) (a' := ?_) #[true, true, true, true, true, true, true, true, true, true, true, true, true, true, true, true, true, false, false, false, false, false, false] rfl rfl (any_of HT_.out (by kernel_rfl)) (fun _ _ _ h => h) (Or.inl ⟨by rfl, ?_⟩) ?_ ?_
                    rotate_left
                    · intro w'
                      go_simp
                      with_reducible rfl
                    rotate_left
                    · simp only [Act.put, List.setIfInBounds_toArray, List.set_cons_zero, List.set_cons_succ, i64_w, i32_w]
                      rfl
                    refine pure_ (i := 17) (N := some 67) (v := undef) (a' := ?_) #[true, true, true, true, true, true, true, true, true, true, true, true, true, true, true, true, true, true, false, false, false, false, false] rfl rfl (any_of HT_.out (by kernel_rfl)) (fun _ _ _ h => h) (Or.inr ⟨by rfl, rfl⟩) ?_ ?_
                    rotate_left
                    · simp only [Act.put, List.setIfInBounds_toArray, List.set_cons_zero, List.set_cons_succ, i64_w, i32_w]
                      rfl
                    refine pure_ (i := 18) (N := some 68) (v := undef) (a' := ?_) #[true, true, true, true, true, true, true, true, true, true, true, true, true, true, true, true, true, true, true, false, false, false, false] rfl rfl (any_of HT_.out (by kernel_rfl)) (fun _ _ _ h => h) (Or.inr ⟨by rfl, rfl⟩) ?_ ?_
                    rotate_left
                    · simp only [Act.put, List.setIfInBounds_toArray, List.set_cons_zero, List.set_cons_succ, i64_w, i32_w]
                      rfl
                    refine pure_ (i := 19) (N := some 69) (v := undef) (a' := ?_) #[true, true, true, true, true, true, true, true, true, true, true, true, true, true, true, true, true, true, true, true, false, false, false] rfl rfl (any_of HT_.out (by kernel_rfl)) (fun _ _ _ h => h) (Or.inr ⟨by rfl, rfl⟩) ?_ ?_
                    rotate_left
                    · simp only [Act.put, List.setIfInBounds_toArray, List.set_cons_zero, List.set_cons_succ, i64_w, i32_w]
                      rfl
                    refine pure_ (i := 20) (N := some 70) (v := undef) (a' := ?_) #[true, true, true, true, true, true, true, true, true, true, true, true, true, true, true, true, true, true, true, true, true, false, false] rfl rfl (any_of HT_.out (by kernel_rfl)) (fun _ _ _ h => h) (Or.inr ⟨by rfl, rfl⟩) ?_ ?_
                    rotate_left
                    · simp only [Act.put, List.setIfInBounds_toArray, List.set_cons_zero, List.set_cons_succ, i64_w, i32_w]
                      rfl
                    refine pure_ (i := 21) (N := some 71) (v := undef) (a' := ?_) #[true, true, true, true, true, true, true, true, true, true, true, true, true, true, true, true, true, true, true, true, true, true, false] rfl rfl (any_of HT_.out (by kernel_rfl)) (fun _ _ _ h => h) (Or.inr ⟨by rfl, rfl⟩) ?_ ?_
                    rotate_left
                    · simp only [Act.put, List.setIfInBounds_toArray, List.set_cons_zero, List.set_cons_succ, i64_w, i32_w]
                      rfl
                    refine pure_ (i := 22) (N := some 72) (v := ?_) (a' := ?_) #[true, true, true, true, true, true, true, true, true, true, true, true, true, true, true, true, true, true, true, true, true, true, true] rfl rfl (any_of HT_.out (by kernel_rfl)) (fun _ _ _ h => h) (Or.inl ⟨by rfl, ?_⟩) ?_ ?_
                    rotate_left
                    · intro w'
                      go_simp
                      with_reducible rfl
                    rotate_left
                    · simp only [Act.put, List.setIfInBounds_toArray, List.set_cons_zero, List.set_cons_succ, i64_w, i32_w]
                      rfl
                    refine done_ (done_of HT_.out (by kernel_rfl)) ?_
                    try go_wp2
                    go_meet
                    case rel => exact ⟨_, (true), (by first | rfl | (simp; done) | (simp [*]; done) | (simp; exact isEmpty_ne _)), H', ⟨by have := HJ4.out; first | omega | exact Nat.le_refl _⟩, ⟨by (with_reducible repeat (first | apply Kd.R_alloc | apply Kd.R_drewN | apply Kd.R_drew)); exact HO471.out⟩, ⟨by repeat (first | (with_reducible first | exact HB.out | apply below_alloc | apply pw_below_drewN | apply below_drew1) | exact HB.out)⟩⟩
                · rw [if_neg c19] at H
                  have c19b0 : (t466.toList == a1.toList) = false := beq_eq_false_iff_ne.mpr c19
                  have c19b1 : (t466.toList != a1.toList) = true := bne_iff_ne.mpr c19
                  have H' := Aside0.mk H
                  clear H
                  try go_wp2
                  have n0_ := Aside0.mk (Kd.R_drew HO471.out)
                  have n1_ := Aside0.mk (below_drew1 HB.out)
                  clear HO471
                  clear HB
                  have HO471 := n0_
                  have HB := n1_
                  clear n0_ n1_
                  refine start_ (n := 23) (S := fun w' => True) (ds := []) #[false, false, false, false, false, false, false, false, false, false, false, false, false, false, false, false, false, false, false, false, false, false, false] (by kernel_rfl) rfl rfl trivial (fun hHeld => ?_); refine with_tabW letterlocklaw3_TermParts.tab7 letterlocklaw3_TermParts.bits7 (fun HT_ HW_ => ?_)
                  generalize w16.drew = w27 at HO471 HB hHeld ⊢
                  refine pure_ (i := 0) (N := some 50) (v := ?_) (a' := ?_) #[true, false, false, false, false, false, false, false, false, false, false, false, false, false, false, false, false, false, false, false, false, false, false] rfl rfl (any_of HT_.out (by kernel_rfl)) (fun _ _ _ h => h) (Or.inl ⟨by rfl, ?_⟩) ?_ ?_
                  rotate_left
                  · intro w'
                    go_simp
                    with_reducible rfl
                  rotate_left
                  · simp only [Act.put, List.setIfInBounds_toArray, List.set_cons_zero, List.set_cons_succ, i64_w, i32_w]
                    rfl
                  refine pure_ (i := 1) (N := some 51) (v := ?_) (a' := ?_) #[true, true, false, false, false, false, false, false, false, false, false, false, false, false, false, false, false, false, false, false, false, false, false] rfl rfl (any_of HT_.out (by kernel_rfl)) (fun _ _ _ h => h) (Or.inl ⟨by rfl, ?_⟩) ?_ ?_
                  rotate_left
                  · intro w'
                    go_simp
                    with_reducible rfl
                  rotate_left
                  · simp only [Act.put, List.setIfInBounds_toArray, List.set_cons_zero, List.set_cons_succ, i64_w, i32_w]
                    rfl
                  refine pure_ (i := 2) (N := some 52) (v := ?_) (a' := ?_) #[true, true, true, false, false, false, false, false, false, false, false, false, false, false, false, false, false, false, false, false, false, false, false] rfl rfl (any_of HT_.out (by kernel_rfl)) (fun _ _ _ h => h) (Or.inl ⟨by rfl, ?_⟩) ?_ ?_
                  rotate_left
                  · intro w'
                    go_simp
                    with_reducible rfl
                  rotate_left
                  · simp only [Act.put, List.setIfInBounds_toArray, List.set_cons_zero, List.set_cons_succ, i64_w, i32_w]
                    rfl
                  refine pure_ (i := 3) (N := some 53) (v := ?_) (a' := ?_) #[true, true, true, true, false, false, false, false, false, false, false, false, false, false, false, false, false, false, false, false, false, false, false] rfl rfl (any_of HT_.out (by kernel_rfl)) (fun _ _ _ h => h) (Or.inl ⟨by rfl, ?_⟩) ?_ ?_
                  rotate_left
                  · intro w'
                    go_simp
                    with_reducible rfl
                  rotate_left
                  · simp only [Act.put, List.setIfInBounds_toArray, List.set_cons_zero, List.set_cons_succ, i64_w, i32_w]
                    rfl
                  refine pure_ (i := 4) (N := some 54) (v := ?_) (a' := ?_) #[true, true, true, true, true, false, false, false, false, false, false, false, false, false, false, false, false, false, false, false, false, false, false] rfl rfl (any_of HT_.out (by kernel_rfl)) (fun _ _ _ h => h) (Or.inl ⟨by rfl, ?_⟩) ?_ ?_
                  rotate_left
                  · intro w'
                    go_simp
                    with_reducible rfl
                  rotate_left
                  · simp only [Act.put, List.setIfInBounds_toArray, List.set_cons_zero, List.set_cons_succ, i64_w, i32_w]
                    rfl
                  refine pure_ (i := 5) (N := some 55) (v := ?_) (a' := ?_) #[true, true, true, true, true, true, false, false, false, false, false, false, false, false, false, false, false, false, false, false, false, false, false] rfl rfl (any_of HT_.out (by kernel_rfl)) (fun _ _ _ h => h) (Or.inl ⟨by rfl, ?_⟩) ?_ ?_
                  rotate_left
                  · intro w'
                    go_simp
                    with_reducible rfl
                  rotate_left
                  · simp only [Act.put, List.setIfInBounds_toArray, List.set_cons_zero, List.set_cons_succ, i64_w, i32_w]
                    rfl
                  refine pure_ (i := 6) (N := some 56) (v := ?_) (a' := ?_) #[true, true, true, true, true, true, true, false, false, false, false, false, false, false, false, false, false, false, false, false, false, false, false] rfl rfl (any_of HT_.out (by kernel_rfl)) (fun _ _ _ h => h) (Or.inl ⟨by rfl, ?_⟩) ?_ ?_
                  rotate_left
                  · intro w'
                    go_simp
                    with_reducible rfl
                  rotate_left
                  · simp only [Act.put, List.setIfInBounds_toArray, List.set_cons_zero, List.set_cons_succ, i64_w, i32_w]
                    rfl
                  refine pure_ (i := 7) (N := some 57) (v := ?_) (a' := ?_) #[true, true, true, true, true, true, true, true, false, false, false, false, false, false, false, false, false, false, false, false, false, false, false] rfl rfl (any_of HT_.out (by kernel_rfl)) (fun _ _ _ h => h) (Or.inl ⟨by rfl, ?_⟩) ?_ ?_
                  rotate_left
                  · intro w'
                    go_simp
                    with_reducible rfl
                  rotate_left
                  · simp only [Act.put, List.setIfInBounds_toArray, List.set_cons_zero, List.set_cons_succ, i64_w, i32_w]
                    rfl
                  refine pure_ (i := 8) (N := some 58) (v := ?_) (a' := ?_) #[true, true, true, true, true, true, true, true, true, false, false, false, false, false, false, false, false, false, false, false, false, false, false] rfl rfl (any_of HT_.out (by kernel_rfl)) (fun _ _ _ h => h) (Or.inl ⟨by rfl, ?_⟩) ?_ ?_
                  rotate_left
                  · intro w'
                    go_simp
                    with_reducible rfl
                  rotate_left
                  · simp only [Act.put, List.setIfInBounds_toArray, List.set_cons_zero, List.set_cons_succ, i64_w, i32_w]
                    rfl
                  refine pure_ (i := 9) (N := some 59) (v := ?_) (a' := ?_) #[true, true, true, true, true, true, true, true, true, true, false, false, false, false, false, false, false, false, false, false, false, false, false] rfl rfl (any_of HT_.out (by kernel_rfl)) (fun _ _ _ h => h) (Or.inl ⟨by rfl, ?_⟩) ?_ ?_
                  rotate_left
                  · intro w'
                    go_simp
                    with_reducible rfl
                  rotate_left
                  · simp only [Act.put, List.setIfInBounds_toArray, List.set_cons_zero, List.set_cons_succ, i64_w, i32_w]
                    rfl
                  refine pure_ (i := 10) (N := some 60) (v := ?_) (a' := ?_) #[true, true, true, true, true, true, true, true, true, true, true, false, false, false, false, false, false, false, false, false, false, false, false] rfl rfl (any_of HT_.out (by kernel_rfl)) (fun _ _ _ h => h) (Or.inl ⟨by rfl, ?_⟩) ?_ ?_
                  rotate_left
                  · intro w'
                    go_simp
                    with_reducible rfl
                  rotate_left
                  · simp only [Act.put, List.setIfInBounds_toArray, List.set_cons_zero, List.set_cons_succ, i64_w, i32_w]
                    rfl
                  refine pure_ (i := 11) (N := some 61) (v := ?_) (a' := ?_) #[true, true, true, true, true, true, true, true, true, true, true, true, false, false, false, false, false, false, false, false, false, false, false] rfl rfl (any_of HT_.out (by kernel_rfl)) (fun _ _ _ h => h) (Or.inl ⟨by rfl, ?_⟩) ?_ ?_
                  rotate_left
                  · intro w'
                    go_simp
                    with_reducible rfl
                  rotate_left
                  · simp only [Act.put, List.setIfInBounds_toArray, List.set_cons_zero, List.set_cons_succ, i64_w, i32_w]
                    rfl
                  refine pure_ (i := 12) (N := some 62) (v := ?_) (a' := ?_) #[true, true, true, true, true, true, true, true, true, true, true, true, true, false, false, false, false, false, false, false, false, false, false] rfl rfl (any_of HT_.out (by kernel_rfl)) (fun _ _ _ h => h) (Or.inl ⟨by rfl, ?_⟩) ?_ ?_
                  rotate_left
                  · intro w'
                    go_simp
                    with_reducible rfl
                  rotate_left
                  · simp only [Act.put, List.setIfInBounds_toArray, List.set_cons_zero, List.set_cons_succ, i64_w, i32_w]
                    rfl
                  refine pure_ (i := 13) (N := some 63) (v := undef) (a' := ?_) #[true, true, true, true, true, true, true, true, true, true, true, true, true, true, false, false, false, false, false, false, false, false, false] rfl rfl (any_of HT_.out (by kernel_rfl)) (fun _ _ _ h => h) (Or.inr ⟨by rfl, rfl⟩) ?_ ?_
                  rotate_left
                  · simp only [Act.put, List.setIfInBounds_toArray, List.set_cons_zero, List.set_cons_succ, i64_w, i32_w]
                    rfl
                  refine pure_ (i := 14) (N := some 64) (v := undef) (a' := ?_) #[true, true, true, true, true, true, true, true, true, true, true, true, true, true, true, false, false, false, false, false, false, false, false] rfl rfl (any_of HT_.out (by kernel_rfl)) (fun _ _ _ h => h) (Or.inr ⟨by rfl, rfl⟩) ?_ ?_
                  rotate_left
                  · simp only [Act.put, List.setIfInBounds_toArray, List.set_cons_zero, List.set_cons_succ, i64_w, i32_w]
                    rfl
                  refine pure_ (i := 15) (N := some 65) (v := ?_) (a' := ?_) #[true, true, true, true, true, true, true, true, true, true, true, true, true, true, true, true, false, false, false, false, false, false, false] rfl rfl (any_of HT_.out (by kernel_rfl)) (fun _ _ _ h => h) (Or.inl ⟨by rfl, ?_⟩) ?_ ?_
                  rotate_left
                  · intro w'
                    go_simp
                    with_reducible rfl
                  rotate_left
                  · simp only [Act.put, List.setIfInBounds_toArray, List.set_cons_zero, List.set_cons_succ, i64_w, i32_w]
                    rfl
                  refine pure_ (i := 16) (N := some 66) (v := ?_) (a' := ?_) #[true, true, true, true, true, true, true, true, true, true, true, true, true, true, true, true, true, false, false, false, false, false, false] rfl rfl (any_of HT_.out (by kernel_rfl)) (fun _ _ _ h => h) (Or.inl ⟨by rfl, ?_⟩) ?_ ?_
                  rotate_left
                  · intro w'
                    go_simp
                    with_reducible rfl
                  rotate_left
                  · simp only [Act.put, List.setIfInBounds_toArray, List.set_cons_zero, List.set_cons_succ, i64_w, i32_w]
                    rfl
                  refine pure_ (i := 17) (N := some 67) (v := undef) (a' := ?_) #[true, true, true, true, true, true, true, true, true, true, true, true, true, true, true, true, true, true, false, false, false, false, false] rfl rfl (any_of HT_.out (by kernel_rfl)) (fun _ _ _ h => h) (Or.inr ⟨by rfl, rfl⟩) ?_ ?_
                  rotate_left
                  · simp only [Act.put, List.setIfInBounds_toArray, List.set_cons_zero, List.set_cons_succ, i64_w, i32_w]
                    rfl
                  refine pure_ (i := 18) (N := some 68) (v := undef) (a' := ?_) #[true, true, true, true, true, true, true, true, true, true, true, true, true, true, true, true, true, true, true, false, false, false, false] rfl rfl (any_of HT_.out (by kernel_rfl)) (fun _ _ _ h => h) (Or.inr ⟨by rfl, rfl⟩) ?_ ?_
                  rotate_left
                  · simp only [Act.put, List.setIfInBounds_toArray, List.set_cons_zero, List.set_cons_succ, i64_w, i32_w]
                    rfl
                  refine pure_ (i := 19) (N := some 69) (v := undef) (a' := ?_) #[true, true, true, true, true, true, true, true, true, true, true, true, true, true, true, true, true, true, true, true, false, false, false] rfl rfl (any_of HT_.out (by kernel_rfl)) (fun _ _ _ h => h) (Or.inr ⟨by rfl, rfl⟩) ?_ ?_
                  rotate_left
                  · simp only [Act.put, List.setIfInBounds_toArray, List.set_cons_zero, List.set_cons_succ, i64_w, i32_w]
                    rfl
                  refine pure_ (i := 20) (N := some 70) (v := undef) (a' := ?_) #[true, true, true, true, true, true, true, true, true, true, true, true, true, true, true, true, true, true, true, true, true, false, false] rfl rfl (any_of HT_.out (by kernel_rfl)) (fun _ _ _ h => h) (Or.inr ⟨by rfl, rfl⟩) ?_ ?_
                  rotate_left
                  · simp only [Act.put, List.setIfInBounds_toArray, List.set_cons_zero, List.set_cons_succ, i64_w, i32_w]
                    rfl
                  refine pure_ (i := 21) (N := some 71) (v := undef) (a' := ?_) #[true, true, true, true, true, true, true, true, true, true, true, true, true, true, true, true, true, true, true, true, true, true, false] rfl rfl (any_of HT_.out (by kernel_rfl)) (fun _ _ _ h => h) (Or.inr ⟨by rfl, rfl⟩) ?_ ?_
                  rotate_left
                  · simp only [Act.put, List.setIfInBounds_toArray, List.set_cons_zero, List.set_cons_succ, i64_w, i32_w]
                    rfl
                  refine pure_ (i := 22) (N := some 72) (v := ?_) (a' := ?_) #[true, true, true, true, true, true, true, true, true, true, true, true, true, true, true, true, true, true, true, true, true, true, true] rfl rfl (any_of HT_.out (by kernel_rfl)) (fun _ _ _ h => h) (Or.inl ⟨by rfl, ?_⟩) ?_ ?_
                  rotate_left
                  · intro w'
                    go_simp
                    with_reducible rfl
                  rotate_left
                  · simp only [Act.put, List.setIfInBounds_toArray, List.set_cons_zero, List.set_cons_succ, i64_w, i32_w]
                    rfl
                  refine done_ (done_of HT_.out (by kernel_rfl)) ?_
                  try go_wp2
                  go_meet
                  case rel => exact ⟨_, (true), (by first | rfl | (simp; done) | (simp [*]; done) | (simp; exact isEmpty_ne _)), H', ⟨by have := HJ4.out; first | omega | exact Nat.le_refl _⟩, ⟨by (with_reducible repeat (first | apply Kd.R_alloc | apply Kd.R_drewN | apply Kd.R_drew)); exact HO471.out⟩, ⟨by repeat (first | (with_reducible first | exact HB.out | apply below_alloc | apply pw_below_drewN | apply below_drew1) | exact HB.out)⟩⟩
              · rw [if_neg c18] at H
                have c18b0 : (t465.toList == t464.toList) = false := beq_eq_false_iff_ne.mpr c18
                have c18b1 : (t465.toList != t464.toList) = true := bne_iff_ne.mpr c18
                have H' := Aside0.mk H
                clear H
                try go_wp2
                have n0_ := Aside0.mk (Kd.R_drew HO471.out)
                have n1_ := Aside0.mk (below_drew1 HB.out)
                clear HO471
                clear HB
                have HO471 := n0_
                have HB := n1_
                clear n0_ n1_
                refine start_ (n := 23) (S := fun w' => True) (ds := []) #[false, false, false, false, false, false, false, false, false, false, false, false, false, false, false, false, false, false, false, false, false, false, false] (by kernel_rfl) rfl rfl trivial (fun hHeld => ?_); refine with_tabW letterlocklaw3_TermParts.tab7 letterlocklaw3_TermParts.bits7 (fun HT_ HW_ => ?_)
                generalize w16.drew = w28 at HO471 HB hHeld ⊢
                refine pure_ (i := 0) (N := some 50) (v := ?_) (a' := ?_) #[true, false, false, false, false, false, false, false, false, false, false, false, false, false, false, false, false, false, false, false, false, false, false] rfl rfl (any_of HT_.out (by kernel_rfl)) (fun _ _ _ h => h) (Or.inl ⟨by rfl, ?_⟩) ?_ ?_
                rotate_left
                · intro w'
                  go_simp
                  with_reducible rfl
                rotate_left
                · simp only [Act.put, List.setIfInBounds_toArray, List.set_cons_zero, List.set_cons_succ, i64_w, i32_w]
                  rfl
                refine pure_ (i := 1) (N := some 51) (v := ?_) (a' := ?_) #[true, true, false, false, false, false, false, false, false, false, false, false, false, false, false, false, false, false, false, false, false, false, false] rfl rfl (any_of HT_.out (by kernel_rfl)) (fun _ _ _ h => h) (Or.inl ⟨by rfl, ?_⟩) ?_ ?_
                rotate_left
                · intro w'
                  go_simp
                  with_reducible rfl
                rotate_left
                · simp only [Act.put, List.setIfInBounds_toArray, List.set_cons_zero, List.set_cons_succ, i64_w, i32_w]
                  rfl
                refine pure_ (i := 2) (N := some 52) (v := ?_) (a' := ?_) #[true, true, true, false, false, false, false, false, false, false, false, false, false, false, false, false, false, false, false, false, false, false, false] rfl rfl (any_of HT_.out (by kernel_rfl)) (fun _ _ _ h => h) (Or.inl ⟨by rfl, ?_⟩) ?_ ?_
                rotate_left
                · intro w'
                  go_simp
                  with_reducible rfl
                rotate_left
                · simp only [Act.put, List.setIfInBounds_toArray, List.set_cons_zero, List.set_cons_succ, i64_w, i32_w]
                  rfl
                refine pure_ (i := 3) (N := some 53) (v := ?_) (a' := ?_) #[true, true, true, true, false, false, false, false, false, false, false, false, false, false, false, false, false, false, false, false, false, false, false] rfl rfl (any_of HT_.out (by kernel_rfl)) (fun _ _ _ h => h) (Or.inl ⟨by rfl, ?_⟩) ?_ ?_
                rotate_left
                · intro w'
                  go_simp
                  with_reducible rfl
                rotate_left
                · simp only [Act.put, List.setIfInBounds_toArray, List.set_cons_zero, List.set_cons_succ, i64_w, i32_w]
                  rfl
                refine pure_ (i := 4) (N := some 54) (v := ?_) (a' := ?_) #[true, true, true, true, true, false, false, false, false, false, false, false, false, false, false, false, false, false, false, false, false, false, false] rfl rfl (any_of HT_.out (by kernel_rfl)) (fun _ _ _ h => h) (Or.inl ⟨by rfl, ?_⟩) ?_ ?_
                rotate_left
                · intro w'
                  go_simp
                  with_reducible rfl
                rotate_left
                · simp only [Act.put, List.setIfInBounds_toArray, List.set_cons_zero, List.set_cons_succ, i64_w, i32_w]
                  rfl
                refine pure_ (i := 5) (N := some 55) (v := ?_) (a' := ?_) #[true, true, true, true, true, true, false, false, false, false, false, false, false, false, false, false, false, false, false, false, false, false, false] rfl rfl (any_of HT_.out (by kernel_rfl)) (fun _ _ _ h => h) (Or.inl ⟨by rfl, ?_⟩) ?_ ?_
                rotate_left
                · intro w'
                  go_simp
                  with_reducible rfl
                rotate_left
                · simp only [Act.put, List.setIfInBounds_toArray, List.set_cons_zero, List.set_cons_succ, i64_w, i32_w]
                  rfl
                refine pure_ (i := 6) (N := some 56) (v := ?_) (a' := ?_) #[true, true, true, true, true, true, true, false, false, false, false, false, false, false, false, false, false, false, false, false, false, false, false] rfl rfl (any_of HT_.out (by kernel_rfl)) (fun _ _ _ h => h) (Or.inl ⟨by rfl, ?_⟩) ?_ ?_
                rotate_left
                · intro w'
                  go_simp
                  with_reducible rfl
                rotate_left
                · simp only [Act.put, List.setIfInBounds_toArray, List.set_cons_zero, List.set_cons_succ, i64_w, i32_w]
                  rfl
                refine pure_ (i := 7) (N := some 57) (v := ?_) (a' := ?_) #[true, true, true, true, true, true, true, true, false, false, false, false, false, false, false, false, false, false, false, false, false, false, false] rfl rfl (any_of HT_.out (by kernel_rfl)) (fun _ _ _ h => h) (Or.inl ⟨by rfl, ?_⟩) ?_ ?_
                rotate_left
                · intro w'
                  go_simp
                  with_reducible rfl
                rotate_left
                · simp only [Act.put, List.setIfInBounds_toArray, List.set_cons_zero, List.set_cons_succ, i64_w, i32_w]
                  rfl
                refine pure_ (i := 8) (N := some 58) (v := undef) (a' := ?_) #[true, true, true, true, true, true, true, true, true, false, false, false, false, false, false, false, false, false, false, false, false, false, false] rfl rfl (any_of HT_.out (by kernel_rfl)) (fun _ _ _ h => h) (Or.inr ⟨by rfl, rfl⟩) ?_ ?_
                rotate_left
                · simp only [Act.put, List.setIfInBounds_toArray, List.set_cons_zero, List.set_cons_succ, i64_w, i32_w]
                  rfl
                refine pure_ (i := 9) (N := some 59) (v := undef) (a' := ?_) #[true, true, true, true, true, true, true, true, true, true, false, false, false, false, false, false, false, false, false, false, false, false, false] rfl rfl (any_of HT_.out (by kernel_rfl)) (fun _ _ _ h => h) (Or.inr ⟨by rfl, rfl⟩) ?_ ?_
                rotate_left
                · simp only [Act.put, List.setIfInBounds_toArray, List.set_cons_zero, List.set_cons_succ, i64_w, i32_w]
                  rfl
                refine pure_ (i := 10) (N := some 60) (v := undef) (a' := ?_) #[true, true, true, true, true, true, true, true, true, true, true, false, false, false, false, false, false, false, false, false, false, false, false] rfl rfl (any_of HT_.out (by kernel_rfl)) (fun _ _ _ h => h) (Or.inr ⟨by rfl, rfl⟩) ?_ ?_
                rotate_left
                · simp only [Act.put, List.setIfInBounds_toArray, List.set_cons_zero, List.set_cons_succ, i64_w, i32_w]
                  rfl
                refine pure_ (i := 11) (N := some 61) (v := ?_) (a' := ?_) #[true, true, true, true, true, true, true, true, true, true, true, true, false, false, false, false, false, false, false, false, false, false, false] rfl rfl (any_of HT_.out (by kernel_rfl)) (fun _ _ _ h => h) (Or.inl ⟨by rfl, ?_⟩) ?_ ?_
                rotate_left
                · intro w'
                  go_simp
                  with_reducible rfl
                rotate_left
                · simp only [Act.put, List.setIfInBounds_toArray, List.set_cons_zero, List.set_cons_succ, i64_w, i32_w]
                  rfl
                refine pure_ (i := 12) (N := some 62) (v := ?_) (a' := ?_) #[true, true, true, true, true, true, true, true, true, true, true, true, true, false, false, false, false, false, false, false, false, false, false] rfl rfl (any_of HT_.out (by kernel_rfl)) (fun _ _ _ h => h) (Or.inl ⟨by rfl, ?_⟩) ?_ ?_
                rotate_left
                · intro w'
                  go_simp
                  with_reducible rfl
                rotate_left
                · simp only [Act.put, List.setIfInBounds_toArray, List.set_cons_zero, List.set_cons_succ, i64_w, i32_w]
                  rfl
                refine pure_ (i := 13) (N := some 63) (v := undef) (a' := ?_) #[true, true, true, true, true, true, true, true, true, true, true, true, true, true, false, false, false, false, false, false, false, false, false] rfl rfl (any_of HT_.out (by kernel_rfl)) (fun _ _ _ h => h) (Or.inr ⟨by rfl, rfl⟩) ?_ ?_
                rotate_left
                · simp only [Act.put, List.setIfInBounds_toArray, List.set_cons_zero, List.set_cons_succ, i64_w, i32_w]
                  rfl
                refine pure_ (i := 14) (N := some 64) (v := undef) (a' := ?_) #[true, true, true, true, true, true, true, true, true, true, true, true, true, true, true, false, false, false, false, false, false, false, false] rfl rfl (any_of HT_.out (by kernel_rfl)) (fun _ _ _ h => h) (Or.inr ⟨by rfl, rfl⟩) ?_ ?_
                rotate_left
                · simp only [Act.put, List.setIfInBounds_toArray, List.set_cons_zero, List.set_cons_succ, i64_w, i32_w]
                  rfl
                refine pure_ (i := 15) (N := some 65) (v := ?_) (a' := ?_) #[true, true, true, true, true, true, true, true, true, true, true, true, true, true, true, true, false, false, false, false, false, false, false] rfl rfl (any_of HT_.out (by kernel_rfl)) (fun _ _ _ h => h) (Or.inl ⟨by rfl, ?_⟩) ?_ ?_
                rotate_left
                · intro w'
                  go_simp
                  with_reducible rfl
                rotate_left
                · simp only [Act.put, List.setIfInBounds_toArray, List.set_cons_zero, List.set_cons_succ, i64_w, i32_w]
                  rfl
                refine pure_ (i := 16) (N := some 66) (v := ?_) (a' := ?_) #[true, true, true, true, true, true, true, true, true, true, true, true, true, true, true, true, true, false, false, false, false, false, false] rfl rfl (any_of HT_.out (by kernel_rfl)) (fun _ _ _ h => h) (Or.inl ⟨by rfl, ?_⟩) ?_ ?_
                rotate_left
                · intro w'
                  go_simp
                  with_reducible rfl
                rotate_left
                · simp only [Act.put, List.setIfInBounds_toArray, List.set_cons_zero, List.set_cons_succ, i64_w, i32_w]
                  rfl
                refine pure_ (i := 17) (N := some 67) (v := undef) (a' := ?_) #[true, true, true, true, true, true, true, true, true, true, true, true, true, true, true, true, true, true, false, false, false, false, false] rfl rfl (any_of HT_.out (by kernel_rfl)) (fun _ _ _ h => h) (Or.inr ⟨by rfl, rfl⟩) ?_ ?_
                rotate_left
                · simp only [Act.put, List.setIfInBounds_toArray, List.set_cons_zero, List.set_cons_succ, i64_w, i32_w]
                  rfl
                refine pure_ (i := 18) (N := some 68) (v := undef) (a' := ?_) #[true, true, true, true, true, true, true, true, true, true, true, true, true, true, true, true, true, true, true, false, false, false, false] rfl rfl (any_of HT_.out (by kernel_rfl)) (fun _ _ _ h => h) (Or.inr ⟨by rfl, rfl⟩) ?_ ?_
                rotate_left
                · simp only [Act.put, List.setIfInBounds_toArray, List.set_cons_zero, List.set_cons_succ, i64_w, i32_w]
                  rfl
                refine pure_ (i := 19) (N := some 69) (v := undef) (a' := ?_) #[true, true, true, true, true, true, true, true, true, true, true, true, true, true, true, true, true, true, true, true, false, false, false] rfl rfl (any_of HT_.out (by kernel_rfl)) (fun _ _ _ h => h) (Or.inr ⟨by rfl, rfl⟩) ?_ ?_
                rotate_left
                · simp only [Act.put, List.setIfInBounds_toArray, List.set_cons_zero, List.set_cons_succ, i64_w, i32_w]
                  rfl
                refine pure_ (i := 20) (N := some 70) (v := undef) (a' := ?_) #[true, true, true, true, true, true, true, true, true, true, true, true, true, true, true, true, true, true, true, true, true, false, false] rfl rfl (any_of HT_.out (by kernel_rfl)) (fun _ _ _ h => h) (Or.inr ⟨by rfl, rfl⟩) ?_ ?_
                rotate_left
                · simp only [Act.put, List.setIfInBounds_toArray, List.set_cons_zero, List.set_cons_succ, i64_w, i32_w]
                  rfl
                refine pure_ (i := 21) (N := some 71) (v := undef) (a' := ?_) #[true, true, true, true, true, true, true, true, true, true, true, true, true, true, true, true, true, true, true, true, true, true, false] rfl rfl (any_of HT_.out (by kernel_rfl)) (fun _ _ _ h => h) (Or.inr ⟨by rfl, rfl⟩) ?_ ?_
                rotate_left
                · simp only [Act.put, List.setIfInBounds_toArray, List.set_cons_zero, List.set_cons_succ, i64_w, i32_w]
                  rfl
                refine pure_ (i := 22) (N := some 72) (v := ?_) (a' := ?_) #[true, true, true, true, true, true, true, true, true, true, true, true, true, true, true, true, true, true, true, true, true, true, true] rfl rfl (any_of HT_.out (by kernel_rfl)) (fun _ _ _ h => h) (Or.inl ⟨by rfl, ?_⟩) ?_ ?_
                rotate_left
                · intro w'
                  go_simp
                  with_reducible rfl
                rotate_left
                · simp only [Act.put, List.setIfInBounds_toArray, List.set_cons_zero, List.set_cons_succ, i64_w, i32_w]
                  rfl
                refine done_ (done_of HT_.out (by kernel_rfl)) ?_
                try go_wp2
                go_meet
                case rel => exact ⟨_, (true), (by first | rfl | (simp; done) | (simp [*]; done) | (simp; exact isEmpty_ne _)), H', ⟨by have := HJ4.out; first | omega | exact Nat.le_refl _⟩, ⟨by (with_reducible repeat (first | apply Kd.R_alloc | apply Kd.R_drewN | apply Kd.R_drew)); exact HO471.out⟩, ⟨by repeat (first | (with_reducible first | exact HB.out | apply below_alloc | apply pw_below_drewN | apply below_drew1) | exact HB.out)⟩⟩
            · rw [if_neg c17] at H
              have c17b0 : (t467 == 0) = false := beq_eq_false_iff_ne.mpr c17
              have c17b1 : (t467 != 0) = true := bne_iff_ne.mpr c17
              (first | rw [c17b0] | (simp only [i64_w, i32_w]; rw [c17b0]) | skip)
              have H' := Aside0.mk H
              clear H
              try go_wp2
              have n0_ := Aside0.mk (Kd.R_drew HO471.out)
              have n1_ := Aside0.mk (below_drew1 HB.out)
              clear HO471
              clear HB
              have HO471 := n0_
              have HB := n1_
              clear n0_ n1_
              refine start_ (n := 23) (S := fun w' => True) (ds := []) #[false, false, false, false, false, false, false, false, false, false, false, false, false, false, false, false, false, false, false, false, false, false, false] (by kernel_rfl) rfl rfl trivial (fun hHeld => ?_); refine with_tabW letterlocklaw3_TermParts.tab7 letterlocklaw3_TermParts.bits7 (fun HT_ HW_ => ?_)
              generalize w16.drew = w29 at HO471 HB hHeld ⊢
              refine pure_ (i := 0) (N := some 50) (v := ?_) (a' := ?_) #[true, false, false, false, false, false, false, false, false, false, false, false, false, false, false, false, false, false, false, false, false, false, false] rfl rfl (any_of HT_.out (by kernel_rfl)) (fun _ _ _ h => h) (Or.inl ⟨by rfl, ?_⟩) ?_ ?_
              rotate_left
              · intro w'
                go_simp
                with_reducible rfl
              rotate_left
              · simp only [Act.put, List.setIfInBounds_toArray, List.set_cons_zero, List.set_cons_succ, i64_w, i32_w]
                rfl
              refine pure_ (i := 1) (N := some 51) (v := ?_) (a' := ?_) #[true, true, false, false, false, false, false, false, false, false, false, false, false, false, false, false, false, false, false, false, false, false, false] rfl rfl (any_of HT_.out (by kernel_rfl)) (fun _ _ _ h => h) (Or.inl ⟨by rfl, ?_⟩) ?_ ?_
              rotate_left
              · intro w'
                go_simp
                with_reducible rfl
              rotate_left
              · simp only [Act.put, List.setIfInBounds_toArray, List.set_cons_zero, List.set_cons_succ, i64_w, i32_w]
                rfl
              refine pure_ (i := 2) (N := some 52) (v := ?_) (a' := ?_) #[true, true, true, false, false, false, false, false, false, false, false, false, false, false, false, false, false, false, false, false, false, false, false] rfl rfl (any_of HT_.out (by kernel_rfl)) (fun _ _ _ h => h) (Or.inl ⟨by rfl, ?_⟩) ?_ ?_
              rotate_left
              · intro w'
                go_simp
                with_reducible rfl
              rotate_left
              · simp only [Act.put, List.setIfInBounds_toArray, List.set_cons_zero, List.set_cons_succ, i64_w, i32_w]
                rfl
              refine pure_ (i := 3) (N := some 53) (v := undef) (a' := ?_) #[true, true, true, true, false, false, false, false, false, false, false, false, false, false, false, false, false, false, false, false, false, false, false] rfl rfl (any_of HT_.out (by kernel_rfl)) (fun _ _ _ h => h) (Or.inr ⟨by rfl, rfl⟩) ?_ ?_
              rotate_left
              · simp only [Act.put, List.setIfInBounds_toArray, List.set_cons_zero, List.set_cons_succ, i64_w, i32_w]
                rfl
              refine pure_ (i := 4) (N := some 54) (v := undef) (a' := ?_) #[true, true, true, true, true, false, false, false, false, false, false, false, false, false, false, false, false, false, false, false, false, false, false] rfl rfl (any_of HT_.out (by kernel_rfl)) (fun _ _ _ h => h) (Or.inr ⟨by rfl, rfl⟩) ?_ ?_
              rotate_left
              · simp only [Act.put, List.setIfInBounds_toArray, List.set_cons_zero, List.set_cons_succ, i64_w, i32_w]
                rfl
              refine pure_ (i := 5) (N := some 55) (v := undef) (a' := ?_) #[true, true, true, true, true, true, false, false, false, false, false, false, false, false, false, false, false, false, false, false, false, false, false] rfl rfl (any_of HT_.out (by kernel_rfl)) (fun _ _ _ h => h) (Or.inr ⟨by rfl, rfl⟩) ?_ ?_
              rotate_left
              · simp only [Act.put, List.setIfInBounds_toArray, List.set_cons_zero, List.set_cons_succ, i64_w, i32_w]
                rfl
              refine pure_ (i := 6) (N := some 56) (v := ?_) (a' := ?_) #[true, true, true, true, true, true, true, false, false, false, false, false, false, false, false, false, false, false, false, false, false, false, false] rfl rfl (any_of HT_.out (by kernel_rfl)) (fun _ _ _ h => h) (Or.inl ⟨by rfl, ?_⟩) ?_ ?_
              rotate_left
              · intro w'
                go_simp
                with_reducible rfl
              rotate_left
              · simp only [Act.put, List.setIfInBounds_toArray, List.set_cons_zero, List.set_cons_succ, i64_w, i32_w]
                rfl
              refine pure_ (i := 7) (N := some 57) (v := ?_) (a' := ?_) #[true, true, true, true, true, true, true, true, false, false, false, false, false, false, false, false, false, false, false, false, false, false, false] rfl rfl (any_of HT_.out (by kernel_rfl)) (fun _ _ _ h => h) (Or.inl ⟨by rfl, ?_⟩) ?_ ?_
              rotate_left
              · intro w'
                go_simp
                with_reducible rfl
              rotate_left
              · simp only [Act.put, List.setIfInBounds_toArray, List.set_cons_zero, List.set_cons_succ, i64_w, i32_w]
                rfl
              refine pure_ (i := 8) (N := some 58) (v := undef) (a' := ?_) #[true, true, true, true, true, true, true, true, true, false, false, false, false, false, false, false, false, false, false, false, false, false, false] rfl rfl (any_of HT_.out (by kernel_rfl)) (fun _ _ _ h => h) (Or.inr ⟨by rfl, rfl⟩) ?_ ?_
              rotate_left
              · simp only [Act.put, List.setIfInBounds_toArray, List.set_cons_zero, List.set_cons_succ, i64_w, i32_w]
                rfl
              refine pure_ (i := 9) (N := some 59) (v := undef) (a' := ?_) #[true, true, true, true, true, true, true, true, true, true, false, false, false, false, false, false, false, false, false, false, false, false, false] rfl rfl (any_of HT_.out (by kernel_rfl)) (fun _ _ _ h => h) (Or.inr ⟨by rfl, rfl⟩) ?_ ?_
              rotate_left
              · simp only [Act.put, List.setIfInBounds_toArray, List.set_cons_zero, List.set_cons_succ, i64_w, i32_w]
                rfl
              refine pure_ (i := 10) (N := some 60) (v := undef) (a' := ?_) #[true, true, true, true, true, true, true, true, true, true, true, false, false, false, false, false, false, false, false, false, false, false, false] rfl rfl (any_of HT_.out (by kernel_rfl)) (fun _ _ _ h => h) (Or.inr ⟨by rfl, rfl⟩) ?_ ?_
              rotate_left
              · simp only [Act.put, List.setIfInBounds_toArray, List.set_cons_zero, List.set_cons_succ, i64_w, i32_w]
                rfl
              refine pure_ (i := 11) (N := some 61) (v := ?_) (a' := ?_) #[true, true, true, true, true, true, true, true, true, true, true, true, false, false, false, false, false, false, false, false, false, false, false] rfl rfl (any_of HT_.out (by kernel_rfl)) (fun _ _ _ h => h) (Or.inl ⟨by rfl, ?_⟩) ?_ ?_
              rotate_left
              · intro w'
                go_simp
                with_reducible rfl
              rotate_left
              · simp only [Act.put, List.setIfInBounds_toArray, List.set_cons_zero, List.set_cons_succ, i64_w, i32_w]
                rfl
              refine pure_ (i := 12) (N := some 62) (v := ?_) (a' := ?_) #[true, true, true, true, true, true, true, true, true, true, true, true, true, false, false, false, false, false, false, false, false, false, false] rfl rfl (any_of HT_.out (by kernel_rfl)) (fun _ _ _ h => h) (Or.inl ⟨by rfl, ?_⟩) ?_ ?_
              rotate_left
              · intro w'
                go_simp
                with_reducible rfl
              rotate_left
              · simp only [Act.put, List.setIfInBounds_toArray, List.set_cons_zero, List.set_cons_succ, i64_w, i32_w]
                rfl
              refine pure_ (i := 13) (N := some 63) (v := undef) (a' := ?_) #[true, true, true, true, true, true, true, true, true, true, true, true, true, true, false, false, false, false, false, false, false, false, false] rfl rfl (any_of HT_.out (by kernel_rfl)) (fun _ _ _ h => h) (Or.inr ⟨by rfl, rfl⟩) ?_ ?_
              rotate_left
              · simp only [Act.put, List.setIfInBounds_toArray, List.set_cons_zero, List.set_cons_succ, i64_w, i32_w]
                rfl
              refine pure_ (i := 14) (N := some 64) (v := undef) (a' := ?_) #[true, true, true, true, true, true, true, true, true, true, true, true, true, true, true, false, false, false, false, false, false, false, false] rfl rfl (any_of HT_.out (by kernel_rfl)) (fun _ _ _ h => h) (Or.inr ⟨by rfl, rfl⟩) ?_ ?_
              rotate_left
              · simp only [Act.put, List.setIfInBounds_toArray, List.set_cons_zero, List.set_cons_succ, i64_w, i32_w]
                rfl
              refine pure_ (i := 15) (N := some 65) (v := ?_) (a' := ?_) #[true, true, true, true, true, true, true, true, true, true, true, true, true, true, true, true, false, false, false, false, false, false, false] rfl rfl (any_of HT_.out (by kernel_rfl)) (fun _ _ _ h => h) (Or.inl ⟨by rfl, ?_⟩) ?_ ?_
              rotate_left
              · intro w'
                go_simp
                with_reducible rfl
              rotate_left
              · simp only [Act.put, List.setIfInBounds_toArray, List.set_cons_zero, List.set_cons_succ, i64_w, i32_w]
                rfl
              refine pure_ (i := 16) (N := some 66) (v := ?_) (a' := ?_) #[true, true, true, true, true, true, true, true, true, true, true, true, true, true, true, true, true, false, false, false, false, false, false] rfl rfl (any_of HT_.out (by kernel_rfl)) (fun _ _ _ h => h) (Or.inl ⟨by rfl, ?_⟩) ?_ ?_
              rotate_left
              · intro w'
                go_simp
                with_reducible rfl
              rotate_left
              · simp only [Act.put, List.setIfInBounds_toArray, List.set_cons_zero, List.set_cons_succ, i64_w, i32_w]
                rfl
              refine pure_ (i := 17) (N := some 67) (v := undef) (a' := ?_) #[true, true, true, true, true, true, true, true, true, true, true, true, true, true, true, true, true, true, false, false, false, false, false] rfl rfl (any_of HT_.out (by kernel_rfl)) (fun _ _ _ h => h) (Or.inr ⟨by rfl, rfl⟩) ?_ ?_
              rotate_left
              · simp only [Act.put, List.setIfInBounds_toArray, List.set_cons_zero, List.set_cons_succ, i64_w, i32_w]
                rfl
              refine pure_ (i := 18) (N := some 68) (v := undef) (a' := ?_) #[true, true, true, true, true, true, true, true, true, true, true, true, true, true, true, true, true, true, true, false, false, false, false] rfl rfl (any_of HT_.out (by kernel_rfl)) (fun _ _ _ h => h) (Or.inr ⟨by rfl, rfl⟩) ?_ ?_
              rotate_left
              · simp only [Act.put, List.setIfInBounds_toArray, List.set_cons_zero, List.set_cons_succ, i64_w, i32_w]
                rfl
              refine pure_ (i := 19) (N := some 69) (v := undef) (a' := ?_) #[true, true, true, true, true, true, true, true, true, true, true, true, true, true, true, true, true, true, true, true, false, false, false] rfl rfl (any_of HT_.out (by kernel_rfl)) (fun _ _ _ h => h) (Or.inr ⟨by rfl, rfl⟩) ?_ ?_
              rotate_left
              · simp only [Act.put, List.setIfInBounds_toArray, List.set_cons_zero, List.set_cons_succ, i64_w, i32_w]
                rfl
              refine pure_ (i := 20) (N := some 70) (v := undef) (a' := ?_) #[true, true, true, true, true, true, true, true, true, true, true, true, true, true, true, true, true, true, true, true, true, false, false] rfl rfl (any_of HT_.out (by kernel_rfl)) (fun _ _ _ h => h) (Or.inr ⟨by rfl, rfl⟩) ?_ ?_
              rotate_left
              · simp only [Act.put, List.setIfInBounds_toArray, List.set_cons_zero, List.set_cons_succ, i64_w, i32_w]
                rfl
              refine pure_ (i := 21) (N := some 71) (v := undef) (a' := ?_) #[true, true, true, true, true, true, true, true, true, true, true, true, true, true, true, true, true, true, true, true, true, true, false] rfl rfl (any_of HT_.out (by kernel_rfl)) (fun _ _ _ h => h) (Or.inr ⟨by rfl, rfl⟩) ?_ ?_
              rotate_left
              · simp only [Act.put, List.setIfInBounds_toArray, List.set_cons_zero, List.set_cons_succ, i64_w, i32_w]
                rfl
              refine pure_ (i := 22) (N := some 72) (v := ?_) (a' := ?_) #[true, true, true, true, true, true, true, true, true, true, true, true, true, true, true, true, true, true, true, true, true, true, true] rfl rfl (any_of HT_.out (by kernel_rfl)) (fun _ _ _ h => h) (Or.inl ⟨by rfl, ?_⟩) ?_ ?_
              rotate_left
              · intro w'
                go_simp
                with_reducible rfl
              rotate_left
              · simp only [Act.put, List.setIfInBounds_toArray, List.set_cons_zero, List.set_cons_succ, i64_w, i32_w]
                rfl
              refine done_ (done_of HT_.out (by kernel_rfl)) ?_
              try go_wp2
              go_meet
              case rel => exact ⟨_, (true), (by first | rfl | (simp; done) | (simp [*]; done) | (simp; exact isEmpty_ne _)), H', ⟨by have := HJ4.out; first | omega | exact Nat.le_refl _⟩, ⟨by (with_reducible repeat (first | apply Kd.R_alloc | apply Kd.R_drewN | apply Kd.R_drew)); exact HO471.out⟩, ⟨by repeat (first | (with_reducible first | exact HB.out | apply below_alloc | apply pw_below_drewN | apply below_drew1) | exact HB.out)⟩⟩
          case rest => as_aux_lemma =>
            clear HC13
            try clear c1
            try clear p2
            try clear c17
            try clear c17b0
            try clear c17b1
            try clear c18
            try clear c18b0
            try clear c18b1
            try clear c19
            try clear c19b0
            try clear c19b1
            obtain ⟨kq, x72_12, rfl, HA, HJ12, HO_12, HB⟩ := hcut
            cases kq with
            | zero => exact absurd HA.out (by simp [letterlocklaw3_TermParts.j1])
            | succ kj12 =>
              have H := HA.out
              clear HA
              simp only [letterlocklaw3_TermParts.j1] at H
              by_cases c30 : x72_12 = true
              · subst c30
                have H1 : (some false) = some r := by rw [if_pos rfl] at H; exact H
                clear H
                have H := H1
                clear H1
                obtain rfl := Option.some.inj H
                go_wp2
                go_ret
                exact ⟨by first | rfl | (simp [errW_none, errW_some] <;> rfl) | (simp [*, errW_none, errW_some] <;> rfl), by repeat (first | (with_reducible first | exact HB.out | apply below_alloc | apply pw_below_drewN | apply below_drew1) | exact HB.out)⟩
              · replace c30 := Bool.eq_false_iff.mpr c30
                subst c30
                have H1 : (if 1 ≤ (t464.size : Int) then (letterlocklaw3_TermParts.l0 kj12 a1 a2 t464 t468 (t464.extract 0 1) 0) else (none)) = some r := by rw [if_neg (show ¬ (false = true) by decide)] at H; exact H
                clear H
                have H := H1
                clear H1
                by_cases c31 : 1 ≤ (t464.size : Int)
                · rw [if_pos c31] at H
                  have c31b0 := eq_true c31
                  have c31b1 : decide (1 ≤ (t464.size : Int)) = true := decide_eq_true c31
                  clear c31
                  have H' := Aside0.mk H
                  clear H
                  go_wp2
                  go_loopg [14, 15] kj12 (fun kq v14 v15 w' => ∃ (x14_3 : ByteArray) (x15_3 : Int), v14 = .string x14_3 ∧ v15 = .int .i64 x15_3 ∧ Aside0 (letterlocklaw3_TermParts.l0 kq a1 a2 t464 t468 x14_3 x15_3 = some r) ∧ Aside0 (kq ≤ kj12) ∧ Aside0 (Kd.R Kd.string 9 w' w.heap.size (fun _ => True) v470 t468) ∧ Aside0 (Below w.heap.size w w'))
                  case atStart => exact ⟨(t464.extract 0 1), (0), (by first | rfl | (simp; done) | (simp [*]; done) | (simp; exact isEmpty_ne _)), (by first | rfl | (simp; done) | (simp [*]; done) | (simp; exact isEmpty_ne _)), H', ⟨Nat.le_refl _⟩, ⟨by (with_reducible repeat (first | apply Kd.R_alloc | apply Kd.R_drewN | apply Kd.R_drew)); exact HO_12.out⟩, ⟨by repeat (first | (with_reducible first | exact HB.out | apply below_alloc | apply pw_below_drewN | apply below_drew1) | exact HB.out)⟩⟩
                  case round => as_aux_lemma =>
                    clear H'
                    try clear c1
                    try clear p2
                    try clear c3
                    try clear c17
                    try clear c17b0
                    try clear c17b1
                    try clear c18
                    try clear c18b0
                    try clear c18b1
                    try clear c19
                    try clear c19b0
                    try clear c19b1
                    try clear c30
                    try clear c31
                    try clear c31b0
                    try clear c31b1
                    try clear p2
                    obtain ⟨x14_3, x15_3, rfl, rfl, HA, HK3, HO_12, HB⟩ := hrel
                    cases gk with
                    | zero => exact absurd HA.out (by simp [letterlocklaw3_TermParts.l0])
                    | succ k3 =>
                      have H := HA.out
                      clear HA
                      simp only [letterlocklaw3_TermParts.l0] at H
                      by_cases c32 : x15_3 < (t468.length : Int)
                      · rw [if_pos c32] at H
                        have c32b0 : decide (x15_3 < (t468.length : Int)) = true := decide_eq_true c32
                        clear c32
                        by_cases c33 : 0 ≤ x15_3
                        · rw [if_pos c33] at H
                          have c33b0 : decide (0 ≤ x15_3) = true := decide_eq_true c33
                          clear c33
                          by_cases c34 : x14_3.size + (rdOf ByteArray.empty t468 x15_3).size ≤ 9223372036854775807
                          · rw [if_pos c34] at H
                            have c34b0 := eq_true c34
                            have c34b1 : decide (x14_3.size + (rdOf ByteArray.empty t468 x15_3).size ≤ 9223372036854775807) = true := decide_eq_true c34
                            try have c34b2 : (9223372036854775807 < x14_3.size + (rdOf ByteArray.empty t468 x15_3).size) = False := eq_false (Nat.not_lt.2 c34)
                            (try (have c34b0n := c34b0; simp only [ByteArray.size_append, ByteArray.size_extract, Nat.min_self, size_lit1, Int.natCast_add, Int.natCast_one] at c34b0n))
                            (try (have c34b1n := c34b1; simp only [ByteArray.size_append, ByteArray.size_extract, Nat.min_self, size_lit1, Int.natCast_add, Int.natCast_one] at c34b1n))
                            (try (have c34b2n := c34b2; simp only [ByteArray.size_append, ByteArray.size_extract, Nat.min_self, size_lit1, Int.natCast_add, Int.natCast_one] at c34b2n))
                            replace H := Option.bind_eq_some_iff.mp H
                            obtain ⟨t475, A350, H⟩ := H
                            replace H : (if t475 = 0 then (some false) else (letterlocklaw3_TermParts.l0 k3 a1 a2 t464 t468 (x14_3 ++ (rdOf ByteArray.empty t468 x15_3)) (wrap64 (x15_3 + 1)))) = some r := H
                            have A35 := Aside0.mk A350
                            clear A350
                            by_cases c36 : t475 = 0
                            · rw [if_pos c36] at H
                              have c36b0 : (t475 == 0) = true := beq_iff_eq.mpr c36
                              have c36b1 : (t475 != 0) = false := bne_eq_false_iff_eq.mpr c36
                              clear c36
                              obtain rfl := Option.some.inj H
                              obtain ⟨Ao37, co37, eo37⟩ := Kd.R_slice HO_12.out
                              subst eo37
                              have p473 : 0 ≤ (x15_3 : Int) := of_decide_eq_true (by first | (with_reducible assumption) | assumption)
                              have q473 : x15_3 < (t468.length : Int) := of_decide_eq_true (by first | (with_reducible assumption) | assumption)
                              obtain ⟨ad473, e473, hx473_0⟩ := Kd.at_string (Kd.R_reads' HO_12.out).2.2 x15_3 p473 q473
                              cases e473
                              replace p473 := eq_true p473
                              replace q473 := eq_true q473
                              have p474 : 0 ≤ (x15_3 : Int) := of_decide_eq_true (by first | (with_reducible assumption) | assumption)
                              have q474 : x15_3 < (t468.length : Int) := of_decide_eq_true (by first | (with_reducible assumption) | assumption)
                              obtain ⟨ad474, e474, hx474_0⟩ := Kd.at_string (Kd.R_reads' HO_12.out).2.2 x15_3 p474 q474
                              obtain rfl : ad473 = ad474 := (by injection e474)
                              replace p474 := eq_true p474
                              replace q474 := eq_true q474
                              go_wp2_with (first | ((with_reducible refine gate_callee (f := 15) rfl ?_); refine goesL_ (some 91) rfl rfl Try.func15 (by kernel_rfl) rfl #[.string (rdOf ByteArray.empty t468 x15_3)] rfl (by (try simp only [List.map_toArray, List.map_cons, List.map_nil]); first | done | rfl | (simp only [List.length_drop, List.length_take]; rfl)) ?_; (with_reducible refine (term_Kind.calls (rdOf ByteArray.empty t468 x15_3) t475 _ A35.out).mono ?_); rintro e w38 ⟨rfl, hb⟩; refine ⟨_, rfl, ?_⟩; have n0_ := Aside0.mk (Kd.R_below (by (with_reducible repeat (first | apply Kd.R_alloc | apply Kd.R_drewN | apply Kd.R_drew)); exact HO_12.out) hb); have n1_ := Aside0.mk (below_step (by repeat (first | (with_reducible first | exact HB.out | apply below_alloc | apply pw_below_drewN | apply below_drew1) | exact HB.out)) hb); clear HO_12; clear HB; have HO_12 := n0_; have HB := n1_; clear n0_ n1_; (try clear hb); (try clear hb2); (try clear hk); (try clear hi)))
                              go_ret
                              exact ⟨by first | rfl | (simp [errW_none, errW_some] <;> rfl) | (simp [*, errW_none, errW_some] <;> rfl), by repeat (first | (with_reducible first | exact HB.out | apply below_alloc | apply pw_below_drewN | apply below_drew1) | exact HB.out)⟩
                            · rw [if_neg c36] at H
                              have c36b0 : (t475 == 0) = false := beq_eq_false_iff_ne.mpr c36
                              have c36b1 : (t475 != 0) = true := bne_iff_ne.mpr c36
                              have H' := Aside0.mk H
                              clear H
                              obtain ⟨Ao39, co39, eo39⟩ := Kd.R_slice HO_12.out
                              subst eo39
                              have p473 : 0 ≤ (x15_3 : Int) := of_decide_eq_true (by first | (with_reducible assumption) | assumption)
                              have q473 : x15_3 < (t468.length : Int) := of_decide_eq_true (by first | (with_reducible assumption) | assumption)
                              obtain ⟨ad473, e473, hx473_0⟩ := Kd.at_string (Kd.R_reads' HO_12.out).2.2 x15_3 p473 q473
                              cases e473
                              replace p473 := eq_true p473
                              replace q473 := eq_true q473
                              have p474 : 0 ≤ (x15_3 : Int) := of_decide_eq_true (by first | (with_reducible assumption) | assumption)
                              have q474 : x15_3 < (t468.length : Int) := of_decide_eq_true (by first | (with_reducible assumption) | assumption)
                              obtain ⟨ad474, e474, hx474_0⟩ := Kd.at_string (Kd.R_reads' HO_12.out).2.2 x15_3 p474 q474
                              obtain rfl : ad473 = ad474 := (by injection e474)
                              replace p474 := eq_true p474
                              replace q474 := eq_true q474
                              go_wp2_with (first | ((with_reducible refine gate_callee (f := 15) rfl ?_); refine goesL_ (some 91) rfl rfl Try.func15 (by kernel_rfl) rfl #[.string (rdOf ByteArray.empty t468 x15_3)] rfl (by (try simp only [List.map_toArray, List.map_cons, List.map_nil]); first | done | rfl | (simp only [List.length_drop, List.length_take]; rfl)) ?_; (with_reducible refine (term_Kind.calls (rdOf ByteArray.empty t468 x15_3) t475 _ A35.out).mono ?_); rintro e w40 ⟨rfl, hb⟩; refine ⟨_, rfl, ?_⟩; have n0_ := Aside0.mk (Kd.R_below (by (with_reducible repeat (first | apply Kd.R_alloc | apply Kd.R_drewN | apply Kd.R_drew)); exact HO_12.out) hb); have n1_ := Aside0.mk (below_step (by repeat (first | (with_reducible first | exact HB.out | apply below_alloc | apply pw_below_drewN | apply below_drew1) | exact HB.out)) hb); clear HO_12; clear HB; have HO_12 := n0_; have HB := n1_; clear n0_ n1_; (try clear hb); (try clear hb2); (try clear hk); (try clear hi)))
                              go_roundg k3
                              case measure => have := HJ4.out; have := HJ12.out; have := HK3.out; omega
                              case rel => exact ⟨(x14_3 ++ (rdOf ByteArray.empty t468 x15_3)), (wrap64 (x15_3 + 1)), (by first | rfl | (simp; done) | (simp [*]; done) | (simp; exact isEmpty_ne _)), (by first | rfl | (simp; done) | (simp [*]; done) | (simp; exact isEmpty_ne _)), H', ⟨by have := HJ4.out; have := HJ12.out; have := HK3.out; omega⟩, ⟨by (with_reducible repeat (first | apply Kd.R_alloc | apply Kd.R_drewN | apply Kd.R_drew)); exact HO_12.out⟩, ⟨by repeat (first | (with_reducible first | exact HB.out | apply below_alloc | apply pw_below_drewN | apply below_drew1) | exact HB.out)⟩⟩
                          · rw [if_neg c34] at H
                            exact absurd H (by simp)
                        · rw [if_neg c33] at H
                          exact absurd H (by simp)
                      · rw [if_neg c32] at H
                        have c32b0 : decide (x15_3 < (t468.length : Int)) = false := decide_eq_false c32
                        clear c32
                        have HC41 := Aside0.mk H
                        clear H
                        obtain ⟨Ao42, co42, eo42⟩ := Kd.R_slice HO_12.out
                        subst eo42
                        go_upto_region 16 with (fail)
                        go_cut [100] (fun v100 wc => ∃ (kq : Nat) (x100_40 : Bool), v100 = .bool x100_40 ∧ Aside0 (letterlocklaw3_TermParts.j3 kq a1 a2 t464 x100_40 = some r) ∧ Aside0 (kq ≤ k3) ∧ Aside0 (Below w.heap.size w wc))
                        case first => as_aux_lemma =>
                          have H := HC41.out
                          clear HC41
                          by_cases c43 : (t468.length : Int) > 0
                          · rw [if_pos c43] at H
                            have c43b0 : decide (0 < (t468.length : Int)) = true := decide_eq_true c43
                            have c43b1 : decide (0 < t468.length) = true := decide_eq_true (by omega)
                            clear c43
                            (first | rw [c43b0] | (simp only [i64_w, i32_w]; rw [c43b0]) | skip)
                            have H' := Aside0.mk H
                            clear H
                            go_wp2
                            go_meet
                            case rel => exact ⟨_, ((x14_3.toList != t464.toList)), (by first | rfl | (simp; done) | (simp [*]; done) | (simp; exact isEmpty_ne _)), H', ⟨by have := HJ4.out; have := HJ12.out; have := HK3.out; first | omega | exact Nat.le_refl _⟩, ⟨by repeat (first | (with_reducible first | exact HB.out | apply below_alloc | apply pw_below_drewN | apply below_drew1) | exact HB.out)⟩⟩
                          · rw [if_neg c43] at H
                            have c43b0 : decide (0 < (t468.length : Int)) = false := decide_eq_false c43
                            have c43b1 : decide (0 < t468.length) = false := decide_eq_false (by omega)
                            clear c43
                            (first | rw [c43b0] | (simp only [i64_w, i32_w]; rw [c43b0]) | skip)
                            have H' := Aside0.mk H
                            clear H
                            go_wp2
                            go_meet
                            case rel => exact ⟨_, (false), (by first | rfl | (simp; done) | (simp [*]; done) | (simp; exact isEmpty_ne _)), H', ⟨by have := HJ4.out; have := HJ12.out; have := HK3.out; first | omega | exact Nat.le_refl _⟩, ⟨by repeat (first | (with_reducible first | exact HB.out | apply below_alloc | apply pw_below_drewN | apply below_drew1) | exact HB.out)⟩⟩
                        case rest => as_aux_lemma =>
                          clear HC41
                          try clear c1
                          try clear p2
                          try clear c3
                          try clear c4
                          try clear p4
                          try clear q4
                          try clear hx4
                          try clear p6
                          try clear c15
                          try clear c17
                          try clear c17b0
                          try clear c17b1
                          try clear c18
                          try clear c18b0
                          try clear c18b1
                          try clear c19
                          try clear c19b0
                          try clear c19b1
                          try clear c30
                          try clear c31
                          try clear c31b0
                          try clear c31b1
                          try clear c32
                          try clear c32b0
                          try clear c33
                          try clear c33b0
                          try clear c34
                          try clear c34b0
                          try clear c34b1
                          try clear c34b2
                          try clear c36
                          try clear c36b0
                          try clear c36b1
                          try clear c43
                          try clear c43b0
                          try clear c43b1
                          try clear hx473_0
                          try clear hx474_0
                          try clear p2
                          try clear p473
                          try clear p474
                          try clear q473
                          try clear q474
                          obtain ⟨kq, x100_40, rfl, HA, HJ40, HB⟩ := hcut
                          cases kq with
                          | zero => exact absurd HA.out (by simp [letterlocklaw3_TermParts.j3])
                          | succ kj40 =>
                            have H := HA.out
                            clear HA
                            simp only [letterlocklaw3_TermParts.j3] at H
                            by_cases c44 : x100_40 = true
                            · subst c44
                              have H1 : (some false) = some r := by rw [if_pos rfl] at H; exact H
                              clear H
                              have H := H1
                              clear H1
                              obtain rfl := Option.some.inj H
                              go_wp2
                              go_ret
                              exact ⟨by first | rfl | (simp [errW_none, errW_some] <;> rfl) | (simp [*, errW_none, errW_some] <;> rfl), by repeat (first | (with_reducible first | exact HB.out | apply below_alloc | apply pw_below_drewN | apply below_drew1) | exact HB.out)⟩
                            · replace c44 := Bool.eq_false_iff.mpr c44
                              subst c44
                              have H1 : ((term_Number.f t464).bind fun bt476 => ((term_Words.f t464).bind fun bt478 => (if 0 < (t464.size : Int) then (if ((bt476.2 == 0) != ((bt t464 0) == 97)) = true then (letterlocklaw3_TermParts.j4 kj40 a1 a2 t464 bt478.1 bt478.2 true) else (if ((bt478.2 == 0) != ((bt t464 0) == 116)) = true then (letterlocklaw3_TermParts.j4 kj40 a1 a2 t464 bt478.1 bt478.2 true) else (if bt476.2 = 0 then ((term_OfAtom.f kj40 bt476.1).bind fun t480 => (if t480.toList = t464.toList then (letterlocklaw3_TermParts.j4 kj40 a1 a2 t464 bt478.1 bt478.2 false) else (letterlocklaw3_TermParts.j4 kj40 a1 a2 t464 bt478.1 bt478.2 true))) else (letterlocklaw3_TermParts.j4 kj40 a1 a2 t464 bt478.1 bt478.2 (bt476.1 != 0))))) else (none)))) = some r := by rw [if_neg (show ¬ (false = true) by decide)] at H; exact H
                              clear H
                              have H := H1
                              clear H1
                              replace H := Option.bind_eq_some_iff.mp H
                              obtain ⟨⟨t476, t477⟩, A450, H⟩ := H
                              replace H : ((term_Words.f t464).bind fun bt478 => (if 0 < (t464.size : Int) then (if ((t477 == 0) != ((bt t464 0) == 97)) = true then (letterlocklaw3_TermParts.j4 kj40 a1 a2 t464 bt478.1 bt478.2 true) else (if ((bt478.2 == 0) != ((bt t464 0) == 116)) = true then (letterlocklaw3_TermParts.j4 kj40 a1 a2 t464 bt478.1 bt478.2 true) else (if t477 = 0 then ((term_OfAtom.f kj40 t476).bind fun t480 => (if t480.toList = t464.toList then (letterlocklaw3_TermParts.j4 kj40 a1 a2 t464 bt478.1 bt478.2 false) else (letterlocklaw3_TermParts.j4 kj40 a1 a2 t464 bt478.1 bt478.2 true))) else (letterlocklaw3_TermParts.j4 kj40 a1 a2 t464 bt478.1 bt478.2 (t476 != 0))))) else (none))) = some r := H
                              have A45 := Aside0.mk A450
                              clear A450
                              replace H := Option.bind_eq_some_iff.mp H
                              obtain ⟨⟨t478, t479⟩, A460, H⟩ := H
                              replace H : (if 0 < (t464.size : Int) then (if ((t477 == 0) != ((bt t464 0) == 97)) = true then (letterlocklaw3_TermParts.j4 kj40 a1 a2 t464 t478 t479 true) else (if ((t479 == 0) != ((bt t464 0) == 116)) = true then (letterlocklaw3_TermParts.j4 kj40 a1 a2 t464 t478 t479 true) else (if t477 = 0 then ((term_OfAtom.f kj40 t476).bind fun t480 => (if t480.toList = t464.toList then (letterlocklaw3_TermParts.j4 kj40 a1 a2 t464 t478 t479 false) else (letterlocklaw3_TermParts.j4 kj40 a1 a2 t464 t478 t479 true))) else (letterlocklaw3_TermParts.j4 kj40 a1 a2 t464 t478 t479 (t476 != 0))))) else (none)) = some r := H
                              have A46 := Aside0.mk A460
                              clear A460
                              have HC47 := Aside0.mk H
                              clear H
                              go_upto_region 20 with (first | ((with_reducible refine gate_callee (f := 21) rfl ?_); refine goesL_ (some 103) rfl rfl Try.func21 (by kernel_rfl) rfl #[.string t464] rfl (by (try simp only [List.map_toArray, List.map_cons, List.map_nil]); first | done | rfl | (simp only [List.length_drop, List.length_take]; rfl)) ?_; (with_reducible refine (term_Number.calls t464 t476 t477 _ A45.out).mono ?_); rintro e w48 ⟨rfl, hb⟩; refine ⟨_, rfl, ?_⟩; have n0_ := Aside0.mk (below_step (by repeat (first | (with_reducible first | exact HB.out | apply below_alloc | apply pw_below_drewN | apply below_drew1) | exact HB.out)) hb); clear HB; have HB := n0_; clear n0_; (try clear hb); (try clear hb2); (try clear hk); (try clear hi)) | ((with_reducible refine gate_callee (f := 22) rfl ?_); refine goesL_ (some 108) rfl rfl Try.func22 (by kernel_rfl) rfl #[.string t464] rfl (by (try simp only [List.map_toArray, List.map_cons, List.map_nil]); first | done | rfl | (simp only [List.length_drop, List.length_take]; rfl)) ?_; (with_reducible refine (term_Words.calls t464 t478 t479 _ A46.out).mono ?_); rintro e w49 ⟨rfl, hb⟩; refine ⟨_, rfl, ?_⟩; have n0_ := Aside0.mk (below_step (by repeat (first | (with_reducible first | exact HB.out | apply below_alloc | apply pw_below_drewN | apply below_drew1) | exact HB.out)) hb); clear HB; have HB := n0_; clear n0_; (try clear hb); (try clear hb2); (try clear hk); (try clear hi)))
                              (try simp only [Act.put, List.setIfInBounds_toArray, List.set_cons_zero, List.set_cons_succ])
                              go_cut [142] (fun v142 wc => ∃ (kq : Nat) (x142_46 : Bool), v142 = .bool x142_46 ∧ Aside0 (letterlocklaw3_TermParts.j4 kq a1 a2 t464 t478 t479 x142_46 = some r) ∧ Aside0 (kq ≤ kj40) ∧ Aside0 (Below w.heap.size w wc))
                              case first => as_aux_lemma =>
                                have H := HC47.out
                                clear HC47
                                by_cases c50 : 0 < (t464.size : Int)
                                · rw [if_pos c50] at H
                                  have c50b0 : decide (0 < (t464.size : Int)) = true := decide_eq_true c50
                                  have c50b1 : decide (0 < t464.size) = true := decide_eq_true (by omega)
                                  clear c50
                                  (first | rw [c50b0] | (simp only [i64_w, i32_w]; rw [c50b0]) | skip)
                                  by_cases d30 : t477 = 0
                                  · have d30b0 : (t477 == 0) = true := beq_iff_eq.mpr d30
                                    have d30b1 : (t477 != 0) = false := bne_eq_false_iff_eq.mpr d30
                                    clear d30
                                    by_cases d31 : (bt t464 0) = 97
                                    · have d31b0 : ((bt t464 0) == 97) = true := beq_iff_eq.mpr d31
                                      have d31b1 : ((bt t464 0) != 97) = false := bne_eq_false_iff_eq.mpr d31
                                      clear d31
                                      have c52 : ((t477 == 0) != ((bt t464 0) == 97)) = false := by rw [d30b0, d31b0]; rfl
                                      rw [if_neg (by rw [c52]; decide)] at H
                                      clear c52
                                      by_cases d32 : t479 = 0
                                      · have d32b0 : (t479 == 0) = true := beq_iff_eq.mpr d32
                                        have d32b1 : (t479 != 0) = false := bne_eq_false_iff_eq.mpr d32
                                        clear d32
                                        by_cases d33 : (bt t464 0) = 116
                                        · have d33b0 : ((bt t464 0) == 116) = true := beq_iff_eq.mpr d33
                                          have d33b1 : ((bt t464 0) != 116) = false := bne_eq_false_iff_eq.mpr d33
                                          clear d33
                                          have c54 : ((t479 == 0) != ((bt t464 0) == 116)) = false := by rw [d32b0, d33b0]; rfl
                                          rw [if_neg (by rw [c54]; decide)] at H
                                          clear c54
                                          have c55 : t477 = 0 := beq_iff_eq.mp d30b0
                                          rw [if_pos c55] at H
                                          clear c55
                                          replace H := Option.bind_eq_some_iff.mp H
                                          obtain ⟨t480, A560, H⟩ := H
                                          replace H : (if t480.toList = t464.toList then (letterlocklaw3_TermParts.j4 kj40 a1 a2 t464 t478 t479 false) else (letterlocklaw3_TermParts.j4 kj40 a1 a2 t464 t478 t479 true)) = some r := H
                                          have A56 := Aside0.mk A560
                                          clear A560
                                          by_cases c57 : t480.toList = t464.toList
                                          · rw [if_pos c57] at H
                                            have c57b0 : (t480.toList == t464.toList) = true := beq_iff_eq.mpr c57
                                            have c57b1 : (t480.toList != t464.toList) = false := bne_eq_false_iff_eq.mpr c57
                                            clear c57
                                            have H' := Aside0.mk H
                                            clear H
                                            have p51 : 0 ≤ (0 : Int) := (by omega)
                                            have q51 : 0 < t464.size := (by have : (0 : Int) < (t464.size : Int) := of_decide_eq_true (by first | (with_reducible assumption) | assumption); omega)
                                            have hx51 : ∀ h : 0 < t464.size, ((t464[0]'h).toNat : Int) = bt t464 0 := bt_at t464 0
                                            clear p51
                                            have qi51 : (0 < (t464.size : Int)) = True := eq_true (of_decide_eq_true (by first | (with_reducible assumption) | assumption))
                                            replace q51 := eq_true q51
                                            have p53 : 0 ≤ (0 : Int) := (by omega)
                                            have q53 : 0 < t464.size := (by have : (0 : Int) < (t464.size : Int) := of_decide_eq_true (by first | (with_reducible assumption) | assumption); omega)
                                            have hx53 : ∀ h : 0 < t464.size, ((t464[0]'h).toNat : Int) = bt t464 0 := bt_at t464 0
                                            clear p53
                                            have qi53 : (0 < (t464.size : Int)) = True := eq_true (of_decide_eq_true (by first | (with_reducible assumption) | assumption))
                                            replace q53 := eq_true q53
                                            go_wp2_with (first | (go_at_call 29; (with_reducible refine (term_OfAtom.calls kj40 t476 t480 _ A56.out).mono ?_); rintro e w58 ⟨rfl, hb⟩; have n0_ := Aside0.mk (below_step (by repeat (first | (with_reducible first | exact HB.out | apply below_alloc | apply pw_below_drewN | apply below_drew1) | exact HB.out)) hb); clear HB; have HB := n0_; clear n0_; (try clear hb); (try clear hb2); (try clear hk); (try clear hi)))
                                            go_meet
                                            case rel => exact ⟨_, (false), (by first | rfl | (simp; done) | (simp [*]; done) | (simp; exact isEmpty_ne _)), H', ⟨by have := HJ4.out; have := HJ12.out; have := HK3.out; have := HJ40.out; first | omega | exact Nat.le_refl _⟩, ⟨by repeat (first | (with_reducible first | exact HB.out | apply below_alloc | apply pw_below_drewN | apply below_drew1) | exact HB.out)⟩⟩
                                          · rw [if_neg c57] at H
                                            have c57b0 : (t480.toList == t464.toList) = false := beq_eq_false_iff_ne.mpr c57
                                            have c57b1 : (t480.toList != t464.toList) = true := bne_iff_ne.mpr c57
                                            have H' := Aside0.mk H
                                            clear H
                                            have p51 : 0 ≤ (0 : Int) := (by omega)
                                            have q51 : 0 < t464.size := (by have : (0 : Int) < (t464.size : Int) := of_decide_eq_true (by first | (with_reducible assumption) | assumption); omega)
                                            have hx51 : ∀ h : 0 < t464.size, ((t464[0]'h).toNat : Int) = bt t464 0 := bt_at t464 0
                                            clear p51
                                            have qi51 : (0 < (t464.size : Int)) = True := eq_true (of_decide_eq_true (by first | (with_reducible assumption) | assumption))
                                            replace q51 := eq_true q51
                                            have p53 : 0 ≤ (0 : Int) := (by omega)
                                            have q53 : 0 < t464.size := (by have : (0 : Int) < (t464.size : Int) := of_decide_eq_true (by first | (with_reducible assumption) | assumption); omega)
                                            have hx53 : ∀ h : 0 < t464.size, ((t464[0]'h).toNat : Int) = bt t464 0 := bt_at t464 0
                                            clear p53
                                            have qi53 : (0 < (t464.size : Int)) = True := eq_true (of_decide_eq_true (by first | (with_reducible assumption) | assumption))
                                            replace q53 := eq_true q53
                                            go_wp2_with (first | (go_at_call 29; (with_reducible refine (term_OfAtom.calls kj40 t476 t480 _ A56.out).mono ?_); rintro e w59 ⟨rfl, hb⟩; have n0_ := Aside0.mk (below_step (by repeat (first | (with_reducible first | exact HB.out | apply below_alloc | apply pw_below_drewN | apply below_drew1) | exact HB.out)) hb); clear HB; have HB := n0_; clear n0_; (try clear hb); (try clear hb2); (try clear hk); (try clear hi)))
                                            go_meet
                                            case rel => exact ⟨_, (true), (by first | rfl | (simp; done) | (simp [*]; done) | (simp; exact isEmpty_ne _)), H', ⟨by have := HJ4.out; have := HJ12.out; have := HK3.out; have := HJ40.out; first | omega | exact Nat.le_refl _⟩, ⟨by repeat (first | (with_reducible first | exact HB.out | apply below_alloc | apply pw_below_drewN | apply below_drew1) | exact HB.out)⟩⟩
                                        · have d33b0 : ((bt t464 0) == 116) = false := beq_eq_false_iff_ne.mpr d33
                                          have d33b1 : ((bt t464 0) != 116) = true := bne_iff_ne.mpr d33
                                          clear d33
                                          have c54 : ((t479 == 0) != ((bt t464 0) == 116)) = true := by rw [d32b0, d33b0]; rfl
                                          rw [if_pos c54] at H
                                          clear c54
                                          have H' := Aside0.mk H
                                          clear H
                                          have p51 : 0 ≤ (0 : Int) := (by omega)
                                          have q51 : 0 < t464.size := (by have : (0 : Int) < (t464.size : Int) := of_decide_eq_true (by first | (with_reducible assumption) | assumption); omega)
                                          have hx51 : ∀ h : 0 < t464.size, ((t464[0]'h).toNat : Int) = bt t464 0 := bt_at t464 0
                                          clear p51
                                          have qi51 : (0 < (t464.size : Int)) = True := eq_true (of_decide_eq_true (by first | (with_reducible assumption) | assumption))
                                          replace q51 := eq_true q51
                                          have p53 : 0 ≤ (0 : Int) := (by omega)
                                          have q53 : 0 < t464.size := (by have : (0 : Int) < (t464.size : Int) := of_decide_eq_true (by first | (with_reducible assumption) | assumption); omega)
                                          have hx53 : ∀ h : 0 < t464.size, ((t464[0]'h).toNat : Int) = bt t464 0 := bt_at t464 0
                                          clear p53
                                          have qi53 : (0 < (t464.size : Int)) = True := eq_true (of_decide_eq_true (by first | (with_reducible assumption) | assumption))
                                          replace q53 := eq_true q53
                                          go_wp2
                                          go_meet
                                          case rel => exact ⟨_, (true), (by first | rfl | (simp; done) | (simp [*]; done) | (simp; exact isEmpty_ne _)), H', ⟨by have := HJ4.out; have := HJ12.out; have := HK3.out; have := HJ40.out; first | omega | exact Nat.le_refl _⟩, ⟨by repeat (first | (with_reducible first | exact HB.out | apply below_alloc | apply pw_below_drewN | apply below_drew1) | exact HB.out)⟩⟩
                                      · have d32b0 : (t479 == 0) = false := beq_eq_false_iff_ne.mpr d32
                                        have d32b1 : (t479 != 0) = true := bne_iff_ne.mpr d32
                                        clear d32
                                        by_cases d34 : (bt t464 0) = 116
                                        · have d34b0 : ((bt t464 0) == 116) = true := beq_iff_eq.mpr d34
                                          have d34b1 : ((bt t464 0) != 116) = false := bne_eq_false_iff_eq.mpr d34
                                          clear d34
                                          have c54 : ((t479 == 0) != ((bt t464 0) == 116)) = true := by rw [d32b0, d34b0]; rfl
                                          rw [if_pos c54] at H
                                          clear c54
                                          have H' := Aside0.mk H
                                          clear H
                                          have p51 : 0 ≤ (0 : Int) := (by omega)
                                          have q51 : 0 < t464.size := (by have : (0 : Int) < (t464.size : Int) := of_decide_eq_true (by first | (with_reducible assumption) | assumption); omega)
                                          have hx51 : ∀ h : 0 < t464.size, ((t464[0]'h).toNat : Int) = bt t464 0 := bt_at t464 0
                                          clear p51
                                          have qi51 : (0 < (t464.size : Int)) = True := eq_true (of_decide_eq_true (by first | (with_reducible assumption) | assumption))
                                          replace q51 := eq_true q51
                                          have p53 : 0 ≤ (0 : Int) := (by omega)
                                          have q53 : 0 < t464.size := (by have : (0 : Int) < (t464.size : Int) := of_decide_eq_true (by first | (with_reducible assumption) | assumption); omega)
                                          have hx53 : ∀ h : 0 < t464.size, ((t464[0]'h).toNat : Int) = bt t464 0 := bt_at t464 0
                                          clear p53
                                          have qi53 : (0 < (t464.size : Int)) = True := eq_true (of_decide_eq_true (by first | (with_reducible assumption) | assumption))
                                          replace q53 := eq_true q53
                                          go_wp2
                                          go_meet
                                          case rel => exact ⟨_, (true), (by first | rfl | (simp; done) | (simp [*]; done) | (simp; exact isEmpty_ne _)), H', ⟨by have := HJ4.out; have := HJ12.out; have := HK3.out; have := HJ40.out; first | omega | exact Nat.le_refl _⟩, ⟨by repeat (first | (with_reducible first | exact HB.out | apply below_alloc | apply pw_below_drewN | apply below_drew1) | exact HB.out)⟩⟩
                                        · have d34b0 : ((bt t464 0) == 116) = false := beq_eq_false_iff_ne.mpr d34
                                          have d34b1 : ((bt t464 0) != 116) = true := bne_iff_ne.mpr d34
                                          clear d34
                                          have c54 : ((t479 == 0) != ((bt t464 0) == 116)) = false := by rw [d32b0, d34b0]; rfl
                                          rw [if_neg (by rw [c54]; decide)] at H
                                          clear c54
                                          have c55 : t477 = 0 := beq_iff_eq.mp d30b0
                                          rw [if_pos c55] at H
                                          clear c55
                                          replace H := Option.bind_eq_some_iff.mp H
                                          obtain ⟨t480, A560, H⟩ := H
                                          replace H : (if t480.toList = t464.toList then (letterlocklaw3_TermParts.j4 kj40 a1 a2 t464 t478 t479 false) else (letterlocklaw3_TermParts.j4 kj40 a1 a2 t464 t478 t479 true)) = some r := H
                                          have A56 := Aside0.mk A560
                                          clear A560
                                          by_cases c57 : t480.toList = t464.toList
                                          · rw [if_pos c57] at H
                                            have c57b0 : (t480.toList == t464.toList) = true := beq_iff_eq.mpr c57
                                            have c57b1 : (t480.toList != t464.toList) = false := bne_eq_false_iff_eq.mpr c57
                                            clear c57
                                            have H' := Aside0.mk H
                                            clear H
                                            have p51 : 0 ≤ (0 : Int) := (by omega)
                                            have q51 : 0 < t464.size := (by have : (0 : Int) < (t464.size : Int) := of_decide_eq_true (by first | (with_reducible assumption) | assumption); omega)
                                            have hx51 : ∀ h : 0 < t464.size, ((t464[0]'h).toNat : Int) = bt t464 0 := bt_at t464 0
                                            clear p51
                                            have qi51 : (0 < (t464.size : Int)) = True := eq_true (of_decide_eq_true (by first | (with_reducible assumption) | assumption))
                                            replace q51 := eq_true q51
                                            have p53 : 0 ≤ (0 : Int) := (by omega)
                                            have q53 : 0 < t464.size := (by have : (0 : Int) < (t464.size : Int) := of_decide_eq_true (by first | (with_reducible assumption) | assumption); omega)
                                            have hx53 : ∀ h : 0 < t464.size, ((t464[0]'h).toNat : Int) = bt t464 0 := bt_at t464 0
                                            clear p53
                                            have qi53 : (0 < (t464.size : Int)) = True := eq_true (of_decide_eq_true (by first | (with_reducible assumption) | assumption))
                                            replace q53 := eq_true q53
                                            go_wp2_with (first | (go_at_call 29; (with_reducible refine (term_OfAtom.calls kj40 t476 t480 _ A56.out).mono ?_); rintro e w58 ⟨rfl, hb⟩; have n0_ := Aside0.mk (below_step (by repeat (first | (with_reducible first | exact HB.out | apply below_alloc | apply pw_below_drewN | apply below_drew1) | exact HB.out)) hb); clear HB; have HB := n0_; clear n0_; (try clear hb); (try clear hb2); (try clear hk); (try clear hi)))
                                            go_meet
                                            case rel => exact ⟨_, (false), (by first | rfl | (simp; done) | (simp [*]; done) | (simp; exact isEmpty_ne _)), H', ⟨by have := HJ4.out; have := HJ12.out; have := HK3.out; have := HJ40.out; first | omega | exact Nat.le_refl _⟩, ⟨by repeat (first | (with_reducible first | exact HB.out | apply below_alloc | apply pw_below_drewN | apply below_drew1) | exact HB.out)⟩⟩
                                          · rw [if_neg c57] at H
                                            have c57b0 : (t480.toList == t464.toList) = false := beq_eq_false_iff_ne.mpr c57
                                            have c57b1 : (t480.toList != t464.toList) = true := bne_iff_ne.mpr c57
                                            have H' := Aside0.mk H
                                            clear H
                                            have p51 : 0 ≤ (0 : Int) := (by omega)
                                            have q51 : 0 < t464.size := (by have : (0 : Int) < (t464.size : Int) := of_decide_eq_true (by first | (with_reducible assumption) | assumption); omega)
                                            have hx51 : ∀ h : 0 < t464.size, ((t464[0]'h).toNat : Int) = bt t464 0 := bt_at t464 0
                                            clear p51
                                            have qi51 : (0 < (t464.size : Int)) = True := eq_true (of_decide_eq_true (by first | (with_reducible assumption) | assumption))
                                            replace q51 := eq_true q51
                                            have p53 : 0 ≤ (0 : Int) := (by omega)
                                            have q53 : 0 < t464.size := (by have : (0 : Int) < (t464.size : Int) := of_decide_eq_true (by first | (with_reducible assumption) | assumption); omega)
                                            have hx53 : ∀ h : 0 < t464.size, ((t464[0]'h).toNat : Int) = bt t464 0 := bt_at t464 0
                                            clear p53
                                            have qi53 : (0 < (t464.size : Int)) = True := eq_true (of_decide_eq_true (by first | (with_reducible assumption) | assumption))
                                            replace q53 := eq_true q53
                                            go_wp2_with (first | (go_at_call 29; (with_reducible refine (term_OfAtom.calls kj40 t476 t480 _ A56.out).mono ?_); rintro e w59 ⟨rfl, hb⟩; have n0_ := Aside0.mk (below_step (by repeat (first | (with_reducible first | exact HB.out | apply below_alloc | apply pw_below_drewN | apply below_drew1) | exact HB.out)) hb); clear HB; have HB := n0_; clear n0_; (try clear hb); (try clear hb2); (try clear hk); (try clear hi)))
                                            go_meet
                                            case rel => exact ⟨_, (true), (by first | rfl | (simp; done) | (simp [*]; done) | (simp; exact isEmpty_ne _)), H', ⟨by have := HJ4.out; have := HJ12.out; have := HK3.out; have := HJ40.out; first | omega | exact Nat.le_refl _⟩, ⟨by repeat (first | (with_reducible first | exact HB.out | apply below_alloc | apply pw_below_drewN | apply below_drew1) | exact HB.out)⟩⟩
                                    · have d31b0 : ((bt t464 0) == 97) = false := beq_eq_false_iff_ne.mpr d31
                                      have d31b1 : ((bt t464 0) != 97) = true := bne_iff_ne.mpr d31
                                      clear d31
                                      have c52 : ((t477 == 0) != ((bt t464 0) == 97)) = true := by rw [d30b0, d31b0]; rfl
                                      rw [if_pos c52] at H
                                      clear c52
                                      have H' := Aside0.mk H
                                      clear H
                                      have p51 : 0 ≤ (0 : Int) := (by omega)
                                      have q51 : 0 < t464.size := (by have : (0 : Int) < (t464.size : Int) := of_decide_eq_true (by first | (with_reducible assumption) | assumption); omega)
                                      have hx51 : ∀ h : 0 < t464.size, ((t464[0]'h).toNat : Int) = bt t464 0 := bt_at t464 0
                                      clear p51
                                      have qi51 : (0 < (t464.size : Int)) = True := eq_true (of_decide_eq_true (by first | (with_reducible assumption) | assumption))
                                      replace q51 := eq_true q51
                                      go_wp2
                                      go_meet
                                      case rel => exact ⟨_, (true), (by first | rfl | (simp; done) | (simp [*]; done) | (simp; exact isEmpty_ne _)), H', ⟨by have := HJ4.out; have := HJ12.out; have := HK3.out; have := HJ40.out; first | omega | exact Nat.le_refl _⟩, ⟨by repeat (first | (with_reducible first | exact HB.out | apply below_alloc | apply pw_below_drewN | apply below_drew1) | exact HB.out)⟩⟩
                                  · have d30b0 : (t477 == 0) = false := beq_eq_false_iff_ne.mpr d30
                                    have d30b1 : (t477 != 0) = true := bne_iff_ne.mpr d30
                                    clear d30
                                    by_cases d35 : (bt t464 0) = 97
                                    · have d35b0 : ((bt t464 0) == 97) = true := beq_iff_eq.mpr d35
                                      have d35b1 : ((bt t464 0) != 97) = false := bne_eq_false_iff_eq.mpr d35
                                      clear d35
                                      have c52 : ((t477 == 0) != ((bt t464 0) == 97)) = true := by rw [d30b0, d35b0]; rfl
                                      rw [if_pos c52] at H
                                      clear c52
                                      have H' := Aside0.mk H
                                      clear H
                                      have p51 : 0 ≤ (0 : Int) := (by omega)
                                      have q51 : 0 < t464.size := (by have : (0 : Int) < (t464.size : Int) := of_decide_eq_true (by first | (with_reducible assumption) | assumption); omega)
                                      have hx51 : ∀ h : 0 < t464.size, ((t464[0]'h).toNat : Int) = bt t464 0 := bt_at t464 0
                                      clear p51
                                      have qi51 : (0 < (t464.size : Int)) = True := eq_true (of_decide_eq_true (by first | (with_reducible assumption) | assumption))
                                      replace q51 := eq_true q51
                                      go_wp2
                                      go_meet
                                      case rel => exact ⟨_, (true), (by first | rfl | (simp; done) | (simp [*]; done) | (simp; exact isEmpty_ne _)), H', ⟨by have := HJ4.out; have := HJ12.out; have := HK3.out; have := HJ40.out; first | omega | exact Nat.le_refl _⟩, ⟨by repeat (first | (with_reducible first | exact HB.out | apply below_alloc | apply pw_below_drewN | apply below_drew1) | exact HB.out)⟩⟩
                                    · have d35b0 : ((bt t464 0) == 97) = false := beq_eq_false_iff_ne.mpr d35
                                      have d35b1 : ((bt t464 0) != 97) = true := bne_iff_ne.mpr d35
                                      clear d35
                                      have c52 : ((t477 == 0) != ((bt t464 0) == 97)) = false := by rw [d30b0, d35b0]; rfl
                                      rw [if_neg (by rw [c52]; decide)] at H
                                      clear c52
                                      by_cases d36 : t479 = 0
                                      · have d36b0 : (t479 == 0) = true := beq_iff_eq.mpr d36
                                        have d36b1 : (t479 != 0) = false := bne_eq_false_iff_eq.mpr d36
                                        clear d36
                                        by_cases d37 : (bt t464 0) = 116
                                        · have d37b0 : ((bt t464 0) == 116) = true := beq_iff_eq.mpr d37
                                          have d37b1 : ((bt t464 0) != 116) = false := bne_eq_false_iff_eq.mpr d37
                                          clear d37
                                          have c54 : ((t479 == 0) != ((bt t464 0) == 116)) = false := by rw [d36b0, d37b0]; rfl
                                          rw [if_neg (by rw [c54]; decide)] at H
                                          clear c54
                                          have c55 : ¬ (t477 = 0) := beq_eq_false_iff_ne.mp d30b0
                                          rw [if_neg c55] at H
                                          clear c55
                                          have H' := Aside0.mk H
                                          clear H
                                          have p51 : 0 ≤ (0 : Int) := (by omega)
                                          have q51 : 0 < t464.size := (by have : (0 : Int) < (t464.size : Int) := of_decide_eq_true (by first | (with_reducible assumption) | assumption); omega)
                                          have hx51 : ∀ h : 0 < t464.size, ((t464[0]'h).toNat : Int) = bt t464 0 := bt_at t464 0
                                          clear p51
                                          have qi51 : (0 < (t464.size : Int)) = True := eq_true (of_decide_eq_true (by first | (with_reducible assumption) | assumption))
                                          replace q51 := eq_true q51
                                          have p53 : 0 ≤ (0 : Int) := (by omega)
                                          have q53 : 0 < t464.size := (by have : (0 : Int) < (t464.size : Int) := of_decide_eq_true (by first | (with_reducible assumption) | assumption); omega)
                                          have hx53 : ∀ h : 0 < t464.size, ((t464[0]'h).toNat : Int) = bt t464 0 := bt_at t464 0
                                          clear p53
                                          have qi53 : (0 < (t464.size : Int)) = True := eq_true (of_decide_eq_true (by first | (with_reducible assumption) | assumption))
                                          replace q53 := eq_true q53
                                          go_wp2
                                          go_meet
                                          case rel => exact ⟨_, ((t476 != 0)), (by first | rfl | (simp; done) | (simp [*]; done) | (simp; exact isEmpty_ne _)), H', ⟨by have := HJ4.out; have := HJ12.out; have := HK3.out; have := HJ40.out; first | omega | exact Nat.le_refl _⟩, ⟨by repeat (first | (with_reducible first | exact HB.out | apply below_alloc | apply pw_below_drewN | apply below_drew1) | exact HB.out)⟩⟩
                                        · have d37b0 : ((bt t464 0) == 116) = false := beq_eq_false_iff_ne.mpr d37
                                          have d37b1 : ((bt t464 0) != 116) = true := bne_iff_ne.mpr d37
                                          clear d37
                                          have c54 : ((t479 == 0) != ((bt t464 0) == 116)) = true := by rw [d36b0, d37b0]; rfl
                                          rw [if_pos c54] at H
                                          clear c54
                                          have H' := Aside0.mk H
                                          clear H
                                          have p51 : 0 ≤ (0 : Int) := (by omega)
                                          have q51 : 0 < t464.size := (by have : (0 : Int) < (t464.size : Int) := of_decide_eq_true (by first | (with_reducible assumption) | assumption); omega)
                                          have hx51 : ∀ h : 0 < t464.size, ((t464[0]'h).toNat : Int) = bt t464 0 := bt_at t464 0
                                          clear p51
                                          have qi51 : (0 < (t464.size : Int)) = True := eq_true (of_decide_eq_true (by first | (with_reducible assumption) | assumption))
                                          replace q51 := eq_true q51
                                          have p53 : 0 ≤ (0 : Int) := (by omega)
                                          have q53 : 0 < t464.size := (by have : (0 : Int) < (t464.size : Int) := of_decide_eq_true (by first | (with_reducible assumption) | assumption); omega)
                                          have hx53 : ∀ h : 0 < t464.size, ((t464[0]'h).toNat : Int) = bt t464 0 := bt_at t464 0
                                          clear p53
                                          have qi53 : (0 < (t464.size : Int)) = True := eq_true (of_decide_eq_true (by first | (with_reducible assumption) | assumption))
                                          replace q53 := eq_true q53
                                          go_wp2
                                          go_meet
                                          case rel => exact ⟨_, (true), (by first | rfl | (simp; done) | (simp [*]; done) | (simp; exact isEmpty_ne _)), H', ⟨by have := HJ4.out; have := HJ12.out; have := HK3.out; have := HJ40.out; first | omega | exact Nat.le_refl _⟩, ⟨by repeat (first | (with_reducible first | exact HB.out | apply below_alloc | apply pw_below_drewN | apply below_drew1) | exact HB.out)⟩⟩
                                      · have d36b0 : (t479 == 0) = false := beq_eq_false_iff_ne.mpr d36
                                        have d36b1 : (t479 != 0) = true := bne_iff_ne.mpr d36
                                        clear d36
                                        by_cases d38 : (bt t464 0) = 116
                                        · have d38b0 : ((bt t464 0) == 116) = true := beq_iff_eq.mpr d38
                                          have d38b1 : ((bt t464 0) != 116) = false := bne_eq_false_iff_eq.mpr d38
                                          clear d38
                                          have c54 : ((t479 == 0) != ((bt t464 0) == 116)) = true := by rw [d36b0, d38b0]; rfl
                                          rw [if_pos c54] at H
                                          clear c54
                                          have H' := Aside0.mk H
                                          clear H
                                          have p51 : 0 ≤ (0 : Int) := (by omega)
                                          have q51 : 0 < t464.size := (by have : (0 : Int) < (t464.size : Int) := of_decide_eq_true (by first | (with_reducible assumption) | assumption); omega)
                                          have hx51 : ∀ h : 0 < t464.size, ((t464[0]'h).toNat : Int) = bt t464 0 := bt_at t464 0
                                          clear p51
                                          have qi51 : (0 < (t464.size : Int)) = True := eq_true (of_decide_eq_true (by first | (with_reducible assumption) | assumption))
                                          replace q51 := eq_true q51
                                          have p53 : 0 ≤ (0 : Int) := (by omega)
                                          have q53 : 0 < t464.size := (by have : (0 : Int) < (t464.size : Int) := of_decide_eq_true (by first | (with_reducible assumption) | assumption); omega)
                                          have hx53 : ∀ h : 0 < t464.size, ((t464[0]'h).toNat : Int) = bt t464 0 := bt_at t464 0
                                          clear p53
                                          have qi53 : (0 < (t464.size : Int)) = True := eq_true (of_decide_eq_true (by first | (with_reducible assumption) | assumption))
                                          replace q53 := eq_true q53
                                          go_wp2
                                          go_meet
                                          case rel => exact ⟨_, (true), (by first | rfl | (simp; done) | (simp [*]; done) | (simp; exact isEmpty_ne _)), H', ⟨by have := HJ4.out; have := HJ12.out; have := HK3.out; have := HJ40.out; first | omega | exact Nat.le_refl _⟩, ⟨by repeat (first | (with_reducible first | exact HB.out | apply below_alloc | apply pw_below_drewN | apply below_drew1) | exact HB.out)⟩⟩
                                        · have d38b0 : ((bt t464 0) == 116) = false := beq_eq_false_iff_ne.mpr d38
                                          have d38b1 : ((bt t464 0) != 116) = true := bne_iff_ne.mpr d38
                                          clear d38
                                          have c54 : ((t479 == 0) != ((bt t464 0) == 116)) = false := by rw [d36b0, d38b0]; rfl
                                          rw [if_neg (by rw [c54]; decide)] at H
                                          clear c54
                                          have c55 : ¬ (t477 = 0) := beq_eq_false_iff_ne.mp d30b0
                                          rw [if_neg c55] at H
                                          clear c55
                                          have H' := Aside0.mk H
                                          clear H
                                          have p51 : 0 ≤ (0 : Int) := (by omega)
                                          have q51 : 0 < t464.size := (by have : (0 : Int) < (t464.size : Int) := of_decide_eq_true (by first | (with_reducible assumption) | assumption); omega)
                                          have hx51 : ∀ h : 0 < t464.size, ((t464[0]'h).toNat : Int) = bt t464 0 := bt_at t464 0
                                          clear p51
                                          have qi51 : (0 < (t464.size : Int)) = True := eq_true (of_decide_eq_true (by first | (with_reducible assumption) | assumption))
                                          replace q51 := eq_true q51
                                          have p53 : 0 ≤ (0 : Int) := (by omega)
                                          have q53 : 0 < t464.size := (by have : (0 : Int) < (t464.size : Int) := of_decide_eq_true (by first | (with_reducible assumption) | assumption); omega)
                                          have hx53 : ∀ h : 0 < t464.size, ((t464[0]'h).toNat : Int) = bt t464 0 := bt_at t464 0
                                          clear p53
                                          have qi53 : (0 < (t464.size : Int)) = True := eq_true (of_decide_eq_true (by first | (with_reducible assumption) | assumption))
                                          replace q53 := eq_true q53
                                          go_wp2
                                          go_meet
                                          case rel => exact ⟨_, ((t476 != 0)), (by first | rfl | (simp; done) | (simp [*]; done) | (simp; exact isEmpty_ne _)), H', ⟨by have := HJ4.out; have := HJ12.out; have := HK3.out; have := HJ40.out; first | omega | exact Nat.le_refl _⟩, ⟨by repeat (first | (with_reducible first | exact HB.out | apply below_alloc | apply pw_below_drewN | apply below_drew1) | exact HB.out)⟩⟩
                                · rw [if_neg c50] at H
                                  exact absurd H (by simp)
                              case rest => as_aux_lemma =>
                                clear HC47
                                try clear c1
                                try clear c2
                                try clear p2
                                try clear c3
                                try clear c4
                                try clear p4
                                try clear q4
                                try clear hx4
                                try clear c5
                                try clear p5
                                try clear q5
                                try clear hx5
                                try clear qi5
                                try clear p6
                                try clear c15
                                try clear c17
                                try clear c17b0
                                try clear c17b1
                                try clear c18
                                try clear c18b0
                                try clear c18b1
                                try clear c19
                                try clear c19b0
                                try clear c19b1
                                try clear c21
                                try clear c22
                                try clear c30
                                try clear c31
                                try clear c31b0
                                try clear c31b1
                                try clear c32
                                try clear c32b0
                                try clear c33
                                try clear c33b0
                                try clear c34
                                try clear c34b0
                                try clear c34b1
                                try clear c34b2
                                try clear c36
                                try clear c36b0
                                try clear c36b1
                                try clear c43
                                try clear c43b0
                                try clear c43b1
                                try clear c44
                                try clear p47
                                try clear q47
                                try clear hx47
                                try clear c50
                                try clear c50b0
                                try clear c50b1
                                try clear p51
                                try clear q51
                                try clear hx51
                                try clear qi51
                                try clear c52
                                try clear c52b0
                                try clear c52b1
                                try clear c52b2
                                try clear p53
                                try clear q53
                                try clear hx53
                                try clear qi53
                                try clear c54
                                try clear c54b0
                                try clear c54b1
                                try clear c54b2
                                try clear c55
                                try clear c55b0
                                try clear c55b1
                                try clear c57
                                try clear c57b0
                                try clear c57b1
                                try clear hx473_0
                                try clear hx474_0
                                try clear p2
                                try clear p4
                                try clear p473
                                try clear p474
                                try clear p51
                                try clear p53
                                try clear p6
                                try clear q4
                                try clear q473
                                try clear q474
                                try clear q51
                                try clear q53
                                obtain ⟨kq, x142_46, rfl, HA, HJ46, HB⟩ := hcut
                                cases kq with
                                | zero => exact absurd HA.out (by simp [letterlocklaw3_TermParts.j4])
                                | succ kj46 =>
                                  have H := HA.out
                                  clear HA
                                  simp only [letterlocklaw3_TermParts.j4] at H
                                  by_cases c60 : x142_46 = true
                                  · subst c60
                                    have H1 : (some false) = some r := by rw [if_pos rfl] at H; exact H
                                    clear H
                                    have H := H1
                                    clear H1
                                    obtain rfl := Option.some.inj H
                                    go_wp2
                                    go_ret
                                    exact ⟨by first | rfl | (simp [errW_none, errW_some] <;> rfl) | (simp [*, errW_none, errW_some] <;> rfl), by repeat (first | (with_reducible first | exact HB.out | apply below_alloc | apply pw_below_drewN | apply below_drew1) | exact HB.out)⟩
                                  · replace c60 := Bool.eq_false_iff.mpr c60
                                    subst c60
                                    have H1 : ((term_OfText.f kj46 t478).bind fun bt481 => ((letterlocklaw3_pick.f a2 (t464.size : Int)).bind fun t483 => (if 0 ≤ t483 then (if t483 ≤ (t464.size : Int) then ((term_Read.f (t464.extract 0 (t483 : Int).toNat)).bind fun bt484 => (if t479 = 0 then (if bt481.2 = 0 then (if bt481.1.toList = t464.toList then (if bt484.2.2 = 2 then ((term_Kind.f (t464.extract 0 (t483 : Int).toNat)).bind fun t487 => (if t487 = 0 then (if a1.toList = ([] : List UInt8) then (some true) else (if t464.size + a1.size ≤ 9223372036854775807 then ((term_Kind.f (t464 ++ a1)).bind fun t488 => (some (t488 == 0))) else (none))) else (some false))) else (some false)) else (some false)) else (some false)) else (if bt484.2.2 = 2 then ((term_Kind.f (t464.extract 0 (t483 : Int).toNat)).bind fun t489 => (if t489 = 0 then (if a1.toList = ([] : List UInt8) then (some true) else (if t464.size + a1.size ≤ 9223372036854775807 then ((term_Kind.f (t464 ++ a1)).bind fun t490 => (some (t490 == 0))) else (none))) else (some false))) else (some false)))) else (none)) else (none)))) = some r := by rw [if_neg (show ¬ (false = true) by decide)] at H; exact H
                                    clear H
                                    have H := H1
                                    clear H1
                                    replace H := Option.bind_eq_some_iff.mp H
                                    obtain ⟨⟨t481, t482⟩, A610, H⟩ := H
                                    replace H : ((letterlocklaw3_pick.f a2 (t464.size : Int)).bind fun t483 => (if 0 ≤ t483 then (if t483 ≤ (t464.size : Int) then ((term_Read.f (t464.extract 0 (t483 : Int).toNat)).bind fun bt484 => (if t479 = 0 then (if t482 = 0 then (if t481.toList = t464.toList then (if bt484.2.2 = 2 then ((term_Kind.f (t464.extract 0 (t483 : Int).toNat)).bind fun t487 => (if t487 = 0 then (if a1.toList = ([] : List UInt8) then (some true) else (if t464.size + a1.size ≤ 9223372036854775807 then ((term_Kind.f (t464 ++ a1)).bind fun t488 => (some (t488 == 0))) else (none))) else (some false))) else (some false)) else (some false)) else (some false)) else (if bt484.2.2 = 2 then ((term_Kind.f (t464.extract 0 (t483 : Int).toNat)).bind fun t489 => (if t489 = 0 then (if a1.toList = ([] : List UInt8) then (some true) else (if t464.size + a1.size ≤ 9223372036854775807 then ((term_Kind.f (t464 ++ a1)).bind fun t490 => (some (t490 == 0))) else (none))) else (some false))) else (some false)))) else (none)) else (none))) = some r := H
                                    have A61 := Aside0.mk A610
                                    clear A610
                                    replace H := Option.bind_eq_some_iff.mp H
                                    obtain ⟨t483, A620, H⟩ := H
                                    replace H : (if 0 ≤ t483 then (if t483 ≤ (t464.size : Int) then ((term_Read.f (t464.extract 0 (t483 : Int).toNat)).bind fun bt484 => (if t479 = 0 then (if t482 = 0 then (if t481.toList = t464.toList then (if bt484.2.2 = 2 then ((term_Kind.f (t464.extract 0 (t483 : Int).toNat)).bind fun t487 => (if t487 = 0 then (if a1.toList = ([] : List UInt8) then (some true) else (if t464.size + a1.size ≤ 9223372036854775807 then ((term_Kind.f (t464 ++ a1)).bind fun t488 => (some (t488 == 0))) else (none))) else (some false))) else (some false)) else (some false)) else (some false)) else (if bt484.2.2 = 2 then ((term_Kind.f (t464.extract 0 (t483 : Int).toNat)).bind fun t489 => (if t489 = 0 then (if a1.toList = ([] : List UInt8) then (some true) else (if t464.size + a1.size ≤ 9223372036854775807 then ((term_Kind.f (t464 ++ a1)).bind fun t490 => (some (t490 == 0))) else (none))) else (some false))) else (some false)))) else (none)) else (none)) = some r := H
                                    have A62 := Aside0.mk A620
                                    clear A620
                                    by_cases c63 : 0 ≤ t483
                                    · rw [if_pos c63] at H
                                      have c63b0 := eq_true c63
                                      have c63b1 : decide (0 ≤ t483) = true := decide_eq_true c63
                                      clear c63
                                      by_cases c64 : t483 ≤ (t464.size : Int)
                                      · rw [if_pos c64] at H
                                        have c64b0 := eq_true c64
                                        have c64b1 : decide (t483 ≤ (t464.size : Int)) = true := decide_eq_true c64
                                        clear c64
                                        replace H := Option.bind_eq_some_iff.mp H
                                        obtain ⟨⟨t484, t485, t486⟩, A650, H⟩ := H
                                        replace H : (if t479 = 0 then (if t482 = 0 then (if t481.toList = t464.toList then (if t486 = 2 then ((term_Kind.f (t464.extract 0 (t483 : Int).toNat)).bind fun t487 => (if t487 = 0 then (if a1.toList = ([] : List UInt8) then (some true) else (if t464.size + a1.size ≤ 9223372036854775807 then ((term_Kind.f (t464 ++ a1)).bind fun t488 => (some (t488 == 0))) else (none))) else (some false))) else (some false)) else (some false)) else (some false)) else (if t486 = 2 then ((term_Kind.f (t464.extract 0 (t483 : Int).toNat)).bind fun t489 => (if t489 = 0 then (if a1.toList = ([] : List UInt8) then (some true) else (if t464.size + a1.size ≤ 9223372036854775807 then ((term_Kind.f (t464 ++ a1)).bind fun t490 => (some (t490 == 0))) else (none))) else (some false))) else (some false))) = some r := H
                                        have A65 := Aside0.mk A650
                                        clear A650
                                        by_cases c66 : t479 = 0
                                        · rw [if_pos c66] at H
                                          have c66b0 : (t479 == 0) = true := beq_iff_eq.mpr c66
                                          have c66b1 : (t479 != 0) = false := bne_eq_false_iff_eq.mpr c66
                                          clear c66
                                          by_cases c67 : t482 = 0
                                          · rw [if_pos c67] at H
                                            have c67b0 : (t482 == 0) = true := beq_iff_eq.mpr c67
                                            have c67b1 : (t482 != 0) = false := bne_eq_false_iff_eq.mpr c67
                                            clear c67
                                            by_cases c68 : t481.toList = t464.toList
                                            · rw [if_pos c68] at H
                                              have c68b0 : (t481.toList == t464.toList) = true := beq_iff_eq.mpr c68
                                              have c68b1 : (t481.toList != t464.toList) = false := bne_eq_false_iff_eq.mpr c68
                                              clear c68
                                              by_cases c69 : t486 = 2
                                              · rw [if_pos c69] at H
                                                have c69b0 : (t486 == 2) = true := beq_iff_eq.mpr c69
                                                have c69b1 : (t486 != 2) = false := bne_eq_false_iff_eq.mpr c69
                                                clear c69
                                                have c70b0 := eq_true (of_decide_eq_true (by first | (with_reducible assumption) | assumption) : 0 ≤ t483)
                                                have c71b0 := eq_true (of_decide_eq_true (by first | (with_reducible assumption) | assumption) : t483 ≤ (t464.size : Int))
                                                replace H := Option.bind_eq_some_iff.mp H
                                                obtain ⟨t487, A720, H⟩ := H
                                                replace H : (if t487 = 0 then (if a1.toList = ([] : List UInt8) then (some true) else (if t464.size + a1.size ≤ 9223372036854775807 then ((term_Kind.f (t464 ++ a1)).bind fun t488 => (some (t488 == 0))) else (none))) else (some false)) = some r := H
                                                have A72 := Aside0.mk A720
                                                clear A720
                                                by_cases c73 : t487 = 0
                                                · rw [if_pos c73] at H
                                                  have c73b0 : (t487 == 0) = true := beq_iff_eq.mpr c73
                                                  have c73b1 : (t487 != 0) = false := bne_eq_false_iff_eq.mpr c73
                                                  clear c73
                                                  by_cases c74 : a1.toList = ([] : List UInt8)
                                                  · rw [if_pos c74] at H
                                                    have c74b0 : (a1.toList == ([] : List UInt8)) = true := beq_iff_eq.mpr c74
                                                    have c74b1 : (a1.toList != ([] : List UInt8)) = false := bne_eq_false_iff_eq.mpr c74
                                                    clear c74
                                                    obtain rfl := Option.some.inj H
                                                    go_wp2_with (first | ((with_reducible refine gate_callee (f := 27) rfl ?_); refine goesL_ (some 145) rfl rfl Try.func27 (by kernel_rfl) rfl #[.string t478] rfl (by (try simp only [List.map_toArray, List.map_cons, List.map_nil]); first | done | rfl | (simp only [List.length_drop, List.length_take]; rfl)) ?_; (with_reducible refine (term_OfText.calls kj46 t478 t481 t482 _ A61.out).mono ?_); rintro e w75 ⟨rfl, hb⟩; refine ⟨_, rfl, ?_⟩; have n0_ := Aside0.mk (below_step (by repeat (first | (with_reducible first | exact HB.out | apply below_alloc | apply pw_below_drewN | apply below_drew1) | exact HB.out)) hb); clear HB; have HB := n0_; clear n0_; (try clear hb); (try clear hb2); (try clear hk); (try clear hi)) | ((with_reducible refine gate_callee (f := 26) rfl ?_); refine goesL_ (some 151) rfl rfl Try.func26 (by kernel_rfl) rfl #[.int .i64 a2, .int .i64 (t464.size : Int)] rfl (by (try simp only [List.map_toArray, List.map_cons, List.map_nil]); first | done | rfl | (simp only [List.length_drop, List.length_take]; rfl)) ?_; (with_reducible refine (letterlocklaw3_pick.calls a2 (t464.size : Int) t483 _ A62.out).mono ?_); rintro e w' ⟨rfl, ⟨nd, rfl⟩⟩; refine ⟨_, rfl, ?_⟩) | ((with_reducible refine gate_callee (f := 32) rfl ?_); refine goesL_ (some 156) rfl rfl Try.func32 (by kernel_rfl) rfl #[.string (t464.extract 0 (t483 : Int).toNat)] rfl (by (try simp only [List.map_toArray, List.map_cons, List.map_nil]); first | done | rfl | (simp only [List.length_drop, List.length_take]; rfl)) ?_; (with_reducible refine (term_Read.calls (t464.extract 0 (t483 : Int).toNat) t484 t485 t486 _ A65.out).mono ?_); rintro e w76 ⟨rfl, hb⟩; refine ⟨_, rfl, ?_⟩; have n0_ := Aside0.mk (below_step (by repeat (first | (with_reducible first | exact HB.out | apply below_alloc | apply pw_below_drewN | apply below_drew1) | exact HB.out)) hb); clear HB; have HB := n0_; clear n0_; (try clear hb); (try clear hb2); (try clear hk); (try clear hi)) | (go_at_call 15; (with_reducible refine (term_Kind.calls (t464.extract 0 (t483 : Int).toNat) t487 _ A72.out).mono ?_); rintro e w77 ⟨rfl, hb⟩; have n0_ := Aside0.mk (below_step (by repeat (first | (with_reducible first | exact HB.out | apply below_alloc | apply pw_below_drewN | apply below_drew1) | exact HB.out)) hb); clear HB; have HB := n0_; clear n0_; (try clear hb); (try clear hb2); (try clear hk); (try clear hi)))
                                                    go_ret
                                                    exact ⟨by first | rfl | (simp [errW_none, errW_some] <;> rfl) | (simp [*, errW_none, errW_some] <;> rfl), by repeat (first | (with_reducible first | exact HB.out | apply below_alloc | apply pw_below_drewN | apply below_drew1) | exact HB.out)⟩
                                                  · rw [if_neg c74] at H
                                                    have c74b0 : (a1.toList == ([] : List UInt8)) = false := beq_eq_false_iff_ne.mpr c74
                                                    have c74b1 : (a1.toList != ([] : List UInt8)) = true := bne_iff_ne.mpr c74
                                                    have c78 : t464.size + a1.size ≤ 9223372036854775807 := (by first | exact of_decide_eq_true c10b0 | exact of_eq_true c10b0)
                                                    rw [if_pos c78] at H
                                                    clear c78
                                                    try have c78b2 : (9223372036854775807 < t464.size + a1.size) = False := eq_false (Nat.not_lt.2 c78)
                                                    replace H := Option.bind_eq_some_iff.mp H
                                                    obtain ⟨t488, A790, H⟩ := H
                                                    replace H : (some (t488 == 0)) = some r := H
                                                    have A79 := Aside0.mk A790
                                                    clear A790
                                                    obtain rfl := Option.some.inj H
                                                    go_wp2_with (first | ((with_reducible refine gate_callee (f := 27) rfl ?_); refine goesL_ (some 145) rfl rfl Try.func27 (by kernel_rfl) rfl #[.string t478] rfl (by (try simp only [List.map_toArray, List.map_cons, List.map_nil]); first | done | rfl | (simp only [List.length_drop, List.length_take]; rfl)) ?_; (with_reducible refine (term_OfText.calls kj46 t478 t481 t482 _ A61.out).mono ?_); rintro e w80 ⟨rfl, hb⟩; refine ⟨_, rfl, ?_⟩; have n0_ := Aside0.mk (below_step (by repeat (first | (with_reducible first | exact HB.out | apply below_alloc | apply pw_below_drewN | apply below_drew1) | exact HB.out)) hb); clear HB; have HB := n0_; clear n0_; (try clear hb); (try clear hb2); (try clear hk); (try clear hi)) | ((with_reducible refine gate_callee (f := 26) rfl ?_); refine goesL_ (some 151) rfl rfl Try.func26 (by kernel_rfl) rfl #[.int .i64 a2, .int .i64 (t464.size : Int)] rfl (by (try simp only [List.map_toArray, List.map_cons, List.map_nil]); first | done | rfl | (simp only [List.length_drop, List.length_take]; rfl)) ?_; (with_reducible refine (letterlocklaw3_pick.calls a2 (t464.size : Int) t483 _ A62.out).mono ?_); rintro e w' ⟨rfl, ⟨nd, rfl⟩⟩; refine ⟨_, rfl, ?_⟩) | ((with_reducible refine gate_callee (f := 32) rfl ?_); refine goesL_ (some 156) rfl rfl Try.func32 (by kernel_rfl) rfl #[.string (t464.extract 0 (t483 : Int).toNat)] rfl (by (try simp only [List.map_toArray, List.map_cons, List.map_nil]); first | done | rfl | (simp only [List.length_drop, List.length_take]; rfl)) ?_; (with_reducible refine (term_Read.calls (t464.extract 0 (t483 : Int).toNat) t484 t485 t486 _ A65.out).mono ?_); rintro e w81 ⟨rfl, hb⟩; refine ⟨_, rfl, ?_⟩; have n0_ := Aside0.mk (below_step (by repeat (first | (with_reducible first | exact HB.out | apply below_alloc | apply pw_below_drewN | apply below_drew1) | exact HB.out)) hb); clear HB; have HB := n0_; clear n0_; (try clear hb); (try clear hb2); (try clear hk); (try clear hi)) | (go_at_call 15; (with_reducible refine (term_Kind.calls (t464.extract 0 (t483 : Int).toNat) t487 _ A72.out).mono ?_); rintro e w82 ⟨rfl, hb⟩; have n0_ := Aside0.mk (below_step (by repeat (first | (with_reducible first | exact HB.out | apply below_alloc | apply pw_below_drewN | apply below_drew1) | exact HB.out)) hb); clear HB; have HB := n0_; clear n0_; (try clear hb); (try clear hb2); (try clear hk); (try clear hi)) | (go_at_call 15; (with_reducible refine (term_Kind.calls (t464 ++ a1) t488 _ A79.out).mono ?_); rintro e w83 ⟨rfl, hb⟩; have n0_ := Aside0.mk (below_step (by repeat (first | (with_reducible first | exact HB.out | apply below_alloc | apply pw_below_drewN | apply below_drew1) | exact HB.out)) hb); clear HB; have HB := n0_; clear n0_; (try clear hb); (try clear hb2); (try clear hk); (try clear hi)))
                                                    go_ret
                                                    exact ⟨by first | rfl | (simp [errW_none, errW_some] <;> rfl) | (simp [*, errW_none, errW_some] <;> rfl), by repeat (first | (with_reducible first | exact HB.out | apply below_alloc | apply pw_below_drewN | apply below_drew1) | exact HB.out)⟩
                                                · rw [if_neg c73] at H
                                                  have c73b0 : (t487 == 0) = false := beq_eq_false_iff_ne.mpr c73
                                                  have c73b1 : (t487 != 0) = true := bne_iff_ne.mpr c73
                                                  obtain rfl := Option.some.inj H
                                                  go_wp2_with (first | ((with_reducible refine gate_callee (f := 27) rfl ?_); refine goesL_ (some 145) rfl rfl Try.func27 (by kernel_rfl) rfl #[.string t478] rfl (by (try simp only [List.map_toArray, List.map_cons, List.map_nil]); first | done | rfl | (simp only [List.length_drop, List.length_take]; rfl)) ?_; (with_reducible refine (term_OfText.calls kj46 t478 t481 t482 _ A61.out).mono ?_); rintro e w84 ⟨rfl, hb⟩; refine ⟨_, rfl, ?_⟩; have n0_ := Aside0.mk (below_step (by repeat (first | (with_reducible first | exact HB.out | apply below_alloc | apply pw_below_drewN | apply below_drew1) | exact HB.out)) hb); clear HB; have HB := n0_; clear n0_; (try clear hb); (try clear hb2); (try clear hk); (try clear hi)) | ((with_reducible refine gate_callee (f := 26) rfl ?_); refine goesL_ (some 151) rfl rfl Try.func26 (by kernel_rfl) rfl #[.int .i64 a2, .int .i64 (t464.size : Int)] rfl (by (try simp only [List.map_toArray, List.map_cons, List.map_nil]); first | done | rfl | (simp only [List.length_drop, List.length_take]; rfl)) ?_; (with_reducible refine (letterlocklaw3_pick.calls a2 (t464.size : Int) t483 _ A62.out).mono ?_); rintro e w' ⟨rfl, ⟨nd, rfl⟩⟩; refine ⟨_, rfl, ?_⟩) | ((with_reducible refine gate_callee (f := 32) rfl ?_); refine goesL_ (some 156) rfl rfl Try.func32 (by kernel_rfl) rfl #[.string (t464.extract 0 (t483 : Int).toNat)] rfl (by (try simp only [List.map_toArray, List.map_cons, List.map_nil]); first | done | rfl | (simp only [List.length_drop, List.length_take]; rfl)) ?_; (with_reducible refine (term_Read.calls (t464.extract 0 (t483 : Int).toNat) t484 t485 t486 _ A65.out).mono ?_); rintro e w85 ⟨rfl, hb⟩; refine ⟨_, rfl, ?_⟩; have n0_ := Aside0.mk (below_step (by repeat (first | (with_reducible first | exact HB.out | apply below_alloc | apply pw_below_drewN | apply below_drew1) | exact HB.out)) hb); clear HB; have HB := n0_; clear n0_; (try clear hb); (try clear hb2); (try clear hk); (try clear hi)) | (go_at_call 15; (with_reducible refine (term_Kind.calls (t464.extract 0 (t483 : Int).toNat) t487 _ A72.out).mono ?_); rintro e w86 ⟨rfl, hb⟩; have n0_ := Aside0.mk (below_step (by repeat (first | (with_reducible first | exact HB.out | apply below_alloc | apply pw_below_drewN | apply below_drew1) | exact HB.out)) hb); clear HB; have HB := n0_; clear n0_; (try clear hb); (try clear hb2); (try clear hk); (try clear hi)))
                                                  go_ret
                                                  exact ⟨by first | rfl | (simp [errW_none, errW_some] <;> rfl) | (simp [*, errW_none, errW_some] <;> rfl), by repeat (first | (with_reducible first | exact HB.out | apply below_alloc | apply pw_below_drewN | apply below_drew1) | exact HB.out)⟩
                                              · rw [if_neg c69] at H
                                                have c69b0 : (t486 == 2) = false := beq_eq_false_iff_ne.mpr c69
                                                have c69b1 : (t486 != 2) = true := bne_iff_ne.mpr c69
                                                obtain rfl := Option.some.inj H
                                                go_wp2_with (first | ((with_reducible refine gate_callee (f := 27) rfl ?_); refine goesL_ (some 145) rfl rfl Try.func27 (by kernel_rfl) rfl #[.string t478] rfl (by (try simp only [List.map_toArray, List.map_cons, List.map_nil]); first | done | rfl | (simp only [List.length_drop, List.length_take]; rfl)) ?_; (with_reducible refine (term_OfText.calls kj46 t478 t481 t482 _ A61.out).mono ?_); rintro e w87 ⟨rfl, hb⟩; refine ⟨_, rfl, ?_⟩; have n0_ := Aside0.mk (below_step (by repeat (first | (with_reducible first | exact HB.out | apply below_alloc | apply pw_below_drewN | apply below_drew1) | exact HB.out)) hb); clear HB; have HB := n0_; clear n0_; (try clear hb); (try clear hb2); (try clear hk); (try clear hi)) | ((with_reducible refine gate_callee (f := 26) rfl ?_); refine goesL_ (some 151) rfl rfl Try.func26 (by kernel_rfl) rfl #[.int .i64 a2, .int .i64 (t464.size : Int)] rfl (by (try simp only [List.map_toArray, List.map_cons, List.map_nil]); first | done | rfl | (simp only [List.length_drop, List.length_take]; rfl)) ?_; (with_reducible refine (letterlocklaw3_pick.calls a2 (t464.size : Int) t483 _ A62.out).mono ?_); rintro e w' ⟨rfl, ⟨nd, rfl⟩⟩; refine ⟨_, rfl, ?_⟩) | ((with_reducible refine gate_callee (f := 32) rfl ?_); refine goesL_ (some 156) rfl rfl Try.func32 (by kernel_rfl) rfl #[.string (t464.extract 0 (t483 : Int).toNat)] rfl (by (try simp only [List.map_toArray, List.map_cons, List.map_nil]); first | done | rfl | (simp only [List.length_drop, List.length_take]; rfl)) ?_; (with_reducible refine (term_Read.calls (t464.extract 0 (t483 : Int).toNat) t484 t485 t486 _ A65.out).mono ?_); rintro e w88 ⟨rfl, hb⟩; refine ⟨_, rfl, ?_⟩; have n0_ := Aside0.mk (below_step (by repeat (first | (with_reducible first | exact HB.out | apply below_alloc | apply pw_below_drewN | apply below_drew1) | exact HB.out)) hb); clear HB; have HB := n0_; clear n0_; (try clear hb); (try clear hb2); (try clear hk); (try clear hi)))
                                                go_ret
                                                exact ⟨by first | rfl | (simp [errW_none, errW_some] <;> rfl) | (simp [*, errW_none, errW_some] <;> rfl), by repeat (first | (with_reducible first | exact HB.out | apply below_alloc | apply pw_below_drewN | apply below_drew1) | exact HB.out)⟩
                                            · rw [if_neg c68] at H
                                              have c68b0 : (t481.toList == t464.toList) = false := beq_eq_false_iff_ne.mpr c68
                                              have c68b1 : (t481.toList != t464.toList) = true := bne_iff_ne.mpr c68
                                              obtain rfl := Option.some.inj H
                                              go_wp2_with (first | ((with_reducible refine gate_callee (f := 27) rfl ?_); refine goesL_ (some 145) rfl rfl Try.func27 (by kernel_rfl) rfl #[.string t478] rfl (by (try simp only [List.map_toArray, List.map_cons, List.map_nil]); first | done | rfl | (simp only [List.length_drop, List.length_take]; rfl)) ?_; (with_reducible refine (term_OfText.calls kj46 t478 t481 t482 _ A61.out).mono ?_); rintro e w89 ⟨rfl, hb⟩; refine ⟨_, rfl, ?_⟩; have n0_ := Aside0.mk (below_step (by repeat (first | (with_reducible first | exact HB.out | apply below_alloc | apply pw_below_drewN | apply below_drew1) | exact HB.out)) hb); clear HB; have HB := n0_; clear n0_; (try clear hb); (try clear hb2); (try clear hk); (try clear hi)) | ((with_reducible refine gate_callee (f := 26) rfl ?_); refine goesL_ (some 151) rfl rfl Try.func26 (by kernel_rfl) rfl #[.int .i64 a2, .int .i64 (t464.size : Int)] rfl (by (try simp only [List.map_toArray, List.map_cons, List.map_nil]); first | done | rfl | (simp only [List.length_drop, List.length_take]; rfl)) ?_; (with_reducible refine (letterlocklaw3_pick.calls a2 (t464.size : Int) t483 _ A62.out).mono ?_); rintro e w' ⟨rfl, ⟨nd, rfl⟩⟩; refine ⟨_, rfl, ?_⟩) | ((with_reducible refine gate_callee (f := 32) rfl ?_); refine goesL_ (some 156) rfl rfl Try.func32 (by kernel_rfl) rfl #[.string (t464.extract 0 (t483 : Int).toNat)] rfl (by (try simp only [List.map_toArray, List.map_cons, List.map_nil]); first | done | rfl | (simp only [List.length_drop, List.length_take]; rfl)) ?_; (with_reducible refine (term_Read.calls (t464.extract 0 (t483 : Int).toNat) t484 t485 t486 _ A65.out).mono ?_); rintro e w90 ⟨rfl, hb⟩; refine ⟨_, rfl, ?_⟩; have n0_ := Aside0.mk (below_step (by repeat (first | (with_reducible first | exact HB.out | apply below_alloc | apply pw_below_drewN | apply below_drew1) | exact HB.out)) hb); clear HB; have HB := n0_; clear n0_; (try clear hb); (try clear hb2); (try clear hk); (try clear hi)))
                                              go_ret
                                              exact ⟨by first | rfl | (simp [errW_none, errW_some] <;> rfl) | (simp [*, errW_none, errW_some] <;> rfl), by repeat (first | (with_reducible first | exact HB.out | apply below_alloc | apply pw_below_drewN | apply below_drew1) | exact HB.out)⟩
                                          · rw [if_neg c67] at H
                                            have c67b0 : (t482 == 0) = false := beq_eq_false_iff_ne.mpr c67
                                            have c67b1 : (t482 != 0) = true := bne_iff_ne.mpr c67
                                            obtain rfl := Option.some.inj H
                                            go_wp2_with (first | ((with_reducible refine gate_callee (f := 27) rfl ?_); refine goesL_ (some 145) rfl rfl Try.func27 (by kernel_rfl) rfl #[.string t478] rfl (by (try simp only [List.map_toArray, List.map_cons, List.map_nil]); first | done | rfl | (simp only [List.length_drop, List.length_take]; rfl)) ?_; (with_reducible refine (term_OfText.calls kj46 t478 t481 t482 _ A61.out).mono ?_); rintro e w91 ⟨rfl, hb⟩; refine ⟨_, rfl, ?_⟩; have n0_ := Aside0.mk (below_step (by repeat (first | (with_reducible first | exact HB.out | apply below_alloc | apply pw_below_drewN | apply below_drew1) | exact HB.out)) hb); clear HB; have HB := n0_; clear n0_; (try clear hb); (try clear hb2); (try clear hk); (try clear hi)) | ((with_reducible refine gate_callee (f := 26) rfl ?_); refine goesL_ (some 151) rfl rfl Try.func26 (by kernel_rfl) rfl #[.int .i64 a2, .int .i64 (t464.size : Int)] rfl (by (try simp only [List.map_toArray, List.map_cons, List.map_nil]); first | done | rfl | (simp only [List.length_drop, List.length_take]; rfl)) ?_; (with_reducible refine (letterlocklaw3_pick.calls a2 (t464.size : Int) t483 _ A62.out).mono ?_); rintro e w' ⟨rfl, ⟨nd, rfl⟩⟩; refine ⟨_, rfl, ?_⟩) | ((with_reducible refine gate_callee (f := 32) rfl ?_); refine goesL_ (some 156) rfl rfl Try.func32 (by kernel_rfl) rfl #[.string (t464.extract 0 (t483 : Int).toNat)] rfl (by (try simp only [List.map_toArray, List.map_cons, List.map_nil]); first | done | rfl | (simp only [List.length_drop, List.length_take]; rfl)) ?_; (with_reducible refine (term_Read.calls (t464.extract 0 (t483 : Int).toNat) t484 t485 t486 _ A65.out).mono ?_); rintro e w92 ⟨rfl, hb⟩; refine ⟨_, rfl, ?_⟩; have n0_ := Aside0.mk (below_step (by repeat (first | (with_reducible first | exact HB.out | apply below_alloc | apply pw_below_drewN | apply below_drew1) | exact HB.out)) hb); clear HB; have HB := n0_; clear n0_; (try clear hb); (try clear hb2); (try clear hk); (try clear hi)))
                                            go_ret
                                            exact ⟨by first | rfl | (simp [errW_none, errW_some] <;> rfl) | (simp [*, errW_none, errW_some] <;> rfl), by repeat (first | (with_reducible first | exact HB.out | apply below_alloc | apply pw_below_drewN | apply below_drew1) | exact HB.out)⟩
                                        · rw [if_neg c66] at H
                                          have c66b0 : (t479 == 0) = false := beq_eq_false_iff_ne.mpr c66
                                          have c66b1 : (t479 != 0) = true := bne_iff_ne.mpr c66
                                          by_cases c93 : t486 = 2
                                          · rw [if_pos c93] at H
                                            have c93b0 : (t486 == 2) = true := beq_iff_eq.mpr c93
                                            have c93b1 : (t486 != 2) = false := bne_eq_false_iff_eq.mpr c93
                                            clear c93
                                            have c94b0 := eq_true (of_decide_eq_true (by first | (with_reducible assumption) | assumption) : 0 ≤ t483)
                                            have c95b0 := eq_true (of_decide_eq_true (by first | (with_reducible assumption) | assumption) : t483 ≤ (t464.size : Int))
                                            replace H := Option.bind_eq_some_iff.mp H
                                            obtain ⟨t489, A960, H⟩ := H
                                            replace H : (if t489 = 0 then (if a1.toList = ([] : List UInt8) then (some true) else (if t464.size + a1.size ≤ 9223372036854775807 then ((term_Kind.f (t464 ++ a1)).bind fun t490 => (some (t490 == 0))) else (none))) else (some false)) = some r := H
                                            have A96 := Aside0.mk A960
                                            clear A960
                                            by_cases c97 : t489 = 0
                                            · rw [if_pos c97] at H
                                              have c97b0 : (t489 == 0) = true := beq_iff_eq.mpr c97
                                              have c97b1 : (t489 != 0) = false := bne_eq_false_iff_eq.mpr c97
                                              clear c97
                                              by_cases c98 : a1.toList = ([] : List UInt8)
                                              · rw [if_pos c98] at H
                                                have c98b0 : (a1.toList == ([] : List UInt8)) = true := beq_iff_eq.mpr c98
                                                have c98b1 : (a1.toList != ([] : List UInt8)) = false := bne_eq_false_iff_eq.mpr c98
                                                clear c98
                                                obtain rfl := Option.some.inj H
                                                go_wp2_with (first | ((with_reducible refine gate_callee (f := 27) rfl ?_); refine goesL_ (some 145) rfl rfl Try.func27 (by kernel_rfl) rfl #[.string t478] rfl (by (try simp only [List.map_toArray, List.map_cons, List.map_nil]); first | done | rfl | (simp only [List.length_drop, List.length_take]; rfl)) ?_; (with_reducible refine (term_OfText.calls kj46 t478 t481 t482 _ A61.out).mono ?_); rintro e w99 ⟨rfl, hb⟩; refine ⟨_, rfl, ?_⟩; have n0_ := Aside0.mk (below_step (by repeat (first | (with_reducible first | exact HB.out | apply below_alloc | apply pw_below_drewN | apply below_drew1) | exact HB.out)) hb); clear HB; have HB := n0_; clear n0_; (try clear hb); (try clear hb2); (try clear hk); (try clear hi)) | ((with_reducible refine gate_callee (f := 26) rfl ?_); refine goesL_ (some 151) rfl rfl Try.func26 (by kernel_rfl) rfl #[.int .i64 a2, .int .i64 (t464.size : Int)] rfl (by (try simp only [List.map_toArray, List.map_cons, List.map_nil]); first | done | rfl | (simp only [List.length_drop, List.length_take]; rfl)) ?_; (with_reducible refine (letterlocklaw3_pick.calls a2 (t464.size : Int) t483 _ A62.out).mono ?_); rintro e w' ⟨rfl, ⟨nd, rfl⟩⟩; refine ⟨_, rfl, ?_⟩) | ((with_reducible refine gate_callee (f := 32) rfl ?_); refine goesL_ (some 156) rfl rfl Try.func32 (by kernel_rfl) rfl #[.string (t464.extract 0 (t483 : Int).toNat)] rfl (by (try simp only [List.map_toArray, List.map_cons, List.map_nil]); first | done | rfl | (simp only [List.length_drop, List.length_take]; rfl)) ?_; (with_reducible refine (term_Read.calls (t464.extract 0 (t483 : Int).toNat) t484 t485 t486 _ A65.out).mono ?_); rintro e w100 ⟨rfl, hb⟩; refine ⟨_, rfl, ?_⟩; have n0_ := Aside0.mk (below_step (by repeat (first | (with_reducible first | exact HB.out | apply below_alloc | apply pw_below_drewN | apply below_drew1) | exact HB.out)) hb); clear HB; have HB := n0_; clear n0_; (try clear hb); (try clear hb2); (try clear hk); (try clear hi)) | (go_at_call 15; (with_reducible refine (term_Kind.calls (t464.extract 0 (t483 : Int).toNat) t489 _ A96.out).mono ?_); rintro e w101 ⟨rfl, hb⟩; have n0_ := Aside0.mk (below_step (by repeat (first | (with_reducible first | exact HB.out | apply below_alloc | apply pw_below_drewN | apply below_drew1) | exact HB.out)) hb); clear HB; have HB := n0_; clear n0_; (try clear hb); (try clear hb2); (try clear hk); (try clear hi)))
                                                go_ret
                                                exact ⟨by first | rfl | (simp [errW_none, errW_some] <;> rfl) | (simp [*, errW_none, errW_some] <;> rfl), by repeat (first | (with_reducible first | exact HB.out | apply below_alloc | apply pw_below_drewN | apply below_drew1) | exact HB.out)⟩
                                              · rw [if_neg c98] at H
                                                have c98b0 : (a1.toList == ([] : List UInt8)) = false := beq_eq_false_iff_ne.mpr c98
                                                have c98b1 : (a1.toList != ([] : List UInt8)) = true := bne_iff_ne.mpr c98
                                                have c102 : t464.size + a1.size ≤ 9223372036854775807 := (by first | exact of_decide_eq_true c10b0 | exact of_eq_true c10b0)
                                                rw [if_pos c102] at H
                                                clear c102
                                                try have c102b2 : (9223372036854775807 < t464.size + a1.size) = False := eq_false (Nat.not_lt.2 c102)
                                                replace H := Option.bind_eq_some_iff.mp H
                                                obtain ⟨t490, A1030, H⟩ := H
                                                replace H : (some (t490 == 0)) = some r := H
                                                have A103 := Aside0.mk A1030
                                                clear A1030
                                                obtain rfl := Option.some.inj H
                                                go_wp2_with (first | ((with_reducible refine gate_callee (f := 27) rfl ?_); refine goesL_ (some 145) rfl rfl Try.func27 (by kernel_rfl) rfl #[.string t478] rfl (by (try simp only [List.map_toArray, List.map_cons, List.map_nil]); first | done | rfl | (simp only [List.length_drop, List.length_take]; rfl)) ?_; (with_reducible refine (term_OfText.calls kj46 t478 t481 t482 _ A61.out).mono ?_); rintro e w104 ⟨rfl, hb⟩; refine ⟨_, rfl, ?_⟩; have n0_ := Aside0.mk (below_step (by repeat (first | (with_reducible first | exact HB.out | apply below_alloc | apply pw_below_drewN | apply below_drew1) | exact HB.out)) hb); clear HB; have HB := n0_; clear n0_; (try clear hb); (try clear hb2); (try clear hk); (try clear hi)) | ((with_reducible refine gate_callee (f := 26) rfl ?_); refine goesL_ (some 151) rfl rfl Try.func26 (by kernel_rfl) rfl #[.int .i64 a2, .int .i64 (t464.size : Int)] rfl (by (try simp only [List.map_toArray, List.map_cons, List.map_nil]); first | done | rfl | (simp only [List.length_drop, List.length_take]; rfl)) ?_; (with_reducible refine (letterlocklaw3_pick.calls a2 (t464.size : Int) t483 _ A62.out).mono ?_); rintro e w' ⟨rfl, ⟨nd, rfl⟩⟩; refine ⟨_, rfl, ?_⟩) | ((with_reducible refine gate_callee (f := 32) rfl ?_); refine goesL_ (some 156) rfl rfl Try.func32 (by kernel_rfl) rfl #[.string (t464.extract 0 (t483 : Int).toNat)] rfl (by (try simp only [List.map_toArray, List.map_cons, List.map_nil]); first | done | rfl | (simp only [List.length_drop, List.length_take]; rfl)) ?_; (with_reducible refine (term_Read.calls (t464.extract 0 (t483 : Int).toNat) t484 t485 t486 _ A65.out).mono ?_); rintro e w105 ⟨rfl, hb⟩; refine ⟨_, rfl, ?_⟩; have n0_ := Aside0.mk (below_step (by repeat (first | (with_reducible first | exact HB.out | apply below_alloc | apply pw_below_drewN | apply below_drew1) | exact HB.out)) hb); clear HB; have HB := n0_; clear n0_; (try clear hb); (try clear hb2); (try clear hk); (try clear hi)) | (go_at_call 15; (with_reducible refine (term_Kind.calls (t464.extract 0 (t483 : Int).toNat) t489 _ A96.out).mono ?_); rintro e w106 ⟨rfl, hb⟩; have n0_ := Aside0.mk (below_step (by repeat (first | (with_reducible first | exact HB.out | apply below_alloc | apply pw_below_drewN | apply below_drew1) | exact HB.out)) hb); clear HB; have HB := n0_; clear n0_; (try clear hb); (try clear hb2); (try clear hk); (try clear hi)) | (go_at_call 15; (with_reducible refine (term_Kind.calls (t464 ++ a1) t490 _ A103.out).mono ?_); rintro e w107 ⟨rfl, hb⟩; have n0_ := Aside0.mk (below_step (by repeat (first | (with_reducible first | exact HB.out | apply below_alloc | apply pw_below_drewN | apply below_drew1) | exact HB.out)) hb); clear HB; have HB := n0_; clear n0_; (try clear hb); (try clear hb2); (try clear hk); (try clear hi)))
                                                go_ret
                                                exact ⟨by first | rfl | (simp [errW_none, errW_some] <;> rfl) | (simp [*, errW_none, errW_some] <;> rfl), by repeat (first | (with_reducible first | exact HB.out | apply below_alloc | apply pw_below_drewN | apply below_drew1) | exact HB.out)⟩
                                            · rw [if_neg c97] at H
                                              have c97b0 : (t489 == 0) = false := beq_eq_false_iff_ne.mpr c97
                                              have c97b1 : (t489 != 0) = true := bne_iff_ne.mpr c97
                                              obtain rfl := Option.some.inj H
                                              go_wp2_with (first | ((with_reducible refine gate_callee (f := 27) rfl ?_); refine goesL_ (some 145) rfl rfl Try.func27 (by kernel_rfl) rfl #[.string t478] rfl (by (try simp only [List.map_toArray, List.map_cons, List.map_nil]); first | done | rfl | (simp only [List.length_drop, List.length_take]; rfl)) ?_; (with_reducible refine (term_OfText.calls kj46 t478 t481 t482 _ A61.out).mono ?_); rintro e w108 ⟨rfl, hb⟩; refine ⟨_, rfl, ?_⟩; have n0_ := Aside0.mk (below_step (by repeat (first | (with_reducible first | exact HB.out | apply below_alloc | apply pw_below_drewN | apply below_drew1) | exact HB.out)) hb); clear HB; have HB := n0_; clear n0_; (try clear hb); (try clear hb2); (try clear hk); (try clear hi)) | ((with_reducible refine gate_callee (f := 26) rfl ?_); refine goesL_ (some 151) rfl rfl Try.func26 (by kernel_rfl) rfl #[.int .i64 a2, .int .i64 (t464.size : Int)] rfl (by (try simp only [List.map_toArray, List.map_cons, List.map_nil]); first | done | rfl | (simp only [List.length_drop, List.length_take]; rfl)) ?_; (with_reducible refine (letterlocklaw3_pick.calls a2 (t464.size : Int) t483 _ A62.out).mono ?_); rintro e w' ⟨rfl, ⟨nd, rfl⟩⟩; refine ⟨_, rfl, ?_⟩) | ((with_reducible refine gate_callee (f := 32) rfl ?_); refine goesL_ (some 156) rfl rfl Try.func32 (by kernel_rfl) rfl #[.string (t464.extract 0 (t483 : Int).toNat)] rfl (by (try simp only [List.map_toArray, List.map_cons, List.map_nil]); first | done | rfl | (simp only [List.length_drop, List.length_take]; rfl)) ?_; (with_reducible refine (term_Read.calls (t464.extract 0 (t483 : Int).toNat) t484 t485 t486 _ A65.out).mono ?_); rintro e w109 ⟨rfl, hb⟩; refine ⟨_, rfl, ?_⟩; have n0_ := Aside0.mk (below_step (by repeat (first | (with_reducible first | exact HB.out | apply below_alloc | apply pw_below_drewN | apply below_drew1) | exact HB.out)) hb); clear HB; have HB := n0_; clear n0_; (try clear hb); (try clear hb2); (try clear hk); (try clear hi)) | (go_at_call 15; (with_reducible refine (term_Kind.calls (t464.extract 0 (t483 : Int).toNat) t489 _ A96.out).mono ?_); rintro e w110 ⟨rfl, hb⟩; have n0_ := Aside0.mk (below_step (by repeat (first | (with_reducible first | exact HB.out | apply below_alloc | apply pw_below_drewN | apply below_drew1) | exact HB.out)) hb); clear HB; have HB := n0_; clear n0_; (try clear hb); (try clear hb2); (try clear hk); (try clear hi)))
                                              go_ret
                                              exact ⟨by first | rfl | (simp [errW_none, errW_some] <;> rfl) | (simp [*, errW_none, errW_some] <;> rfl), by repeat (first | (with_reducible first | exact HB.out | apply below_alloc | apply pw_below_drewN | apply below_drew1) | exact HB.out)⟩
                                          · rw [if_neg c93] at H
                                            have c93b0 : (t486 == 2) = false := beq_eq_false_iff_ne.mpr c93
                                            have c93b1 : (t486 != 2) = true := bne_iff_ne.mpr c93
                                            obtain rfl := Option.some.inj H
                                            go_wp2_with (first | ((with_reducible refine gate_callee (f := 27) rfl ?_); refine goesL_ (some 145) rfl rfl Try.func27 (by kernel_rfl) rfl #[.string t478] rfl (by (try simp only [List.map_toArray, List.map_cons, List.map_nil]); first | done | rfl | (simp only [List.length_drop, List.length_take]; rfl)) ?_; (with_reducible refine (term_OfText.calls kj46 t478 t481 t482 _ A61.out).mono ?_); rintro e w111 ⟨rfl, hb⟩; refine ⟨_, rfl, ?_⟩; have n0_ := Aside0.mk (below_step (by repeat (first | (with_reducible first | exact HB.out | apply below_alloc | apply pw_below_drewN | apply below_drew1) | exact HB.out)) hb); clear HB; have HB := n0_; clear n0_; (try clear hb); (try clear hb2); (try clear hk); (try clear hi)) | ((with_reducible refine gate_callee (f := 26) rfl ?_); refine goesL_ (some 151) rfl rfl Try.func26 (by kernel_rfl) rfl #[.int .i64 a2, .int .i64 (t464.size : Int)] rfl (by (try simp only [List.map_toArray, List.map_cons, List.map_nil]); first | done | rfl | (simp only [List.length_drop, List.length_take]; rfl)) ?_; (with_reducible refine (letterlocklaw3_pick.calls a2 (t464.size : Int) t483 _ A62.out).mono ?_); rintro e w' ⟨rfl, ⟨nd, rfl⟩⟩; refine ⟨_, rfl, ?_⟩) | ((with_reducible refine gate_callee (f := 32) rfl ?_); refine goesL_ (some 156) rfl rfl Try.func32 (by kernel_rfl) rfl #[.string (t464.extract 0 (t483 : Int).toNat)] rfl (by (try simp only [List.map_toArray, List.map_cons, List.map_nil]); first | done | rfl | (simp only [List.length_drop, List.length_take]; rfl)) ?_; (with_reducible refine (term_Read.calls (t464.extract 0 (t483 : Int).toNat) t484 t485 t486 _ A65.out).mono ?_); rintro e w112 ⟨rfl, hb⟩; refine ⟨_, rfl, ?_⟩; have n0_ := Aside0.mk (below_step (by repeat (first | (with_reducible first | exact HB.out | apply below_alloc | apply pw_below_drewN | apply below_drew1) | exact HB.out)) hb); clear HB; have HB := n0_; clear n0_; (try clear hb); (try clear hb2); (try clear hk); (try clear hi)))
                                            go_ret
                                            exact ⟨by first | rfl | (simp [errW_none, errW_some] <;> rfl) | (simp [*, errW_none, errW_some] <;> rfl), by repeat (first | (with_reducible first | exact HB.out | apply below_alloc | apply pw_below_drewN | apply below_drew1) | exact HB.out)⟩
                                      · rw [if_neg c64] at H
                                        exact absurd H (by simp)
                                    · rw [if_neg c63] at H
                                      exact absurd H (by simp)
                · rw [if_neg c31] at H
                  exact absurd H (by simp)
        · rw [if_neg c10] at H
          exact absurd H (by simp)

/-- THE ONE PURE STATEMENT of letterlocklaw3_TermParts: yours. -/
def letterlocklaw3_TermParts.Pure : Prop := ∀ (l0 : List Int) (a1 : ByteArray) (a2 : Int), l0.length ≤ maxLen → l0.length * 8 ≤ 140737488351232 → (∀ x ∈ l0, (Lit.int .i64 x).wf = true) → a1.size ≤ 140737488351232 → (Lit.int .i64 a2).wf = true → ∃ k, letterlocklaw3_TermParts.f k l0 a1 a2 = some true
theorem letterlocklaw3_TermParts.walk (P : letterlocklaw3_TermParts.Pure) (a0 : Option Addr) (len0 cap0 : Nat) (z0 : List Int) (a1 : ByteArray) (a2 : Int) (w : World) (w0 : (a0 = none ∧ len0 = 0 ∧ cap0 = 0 ∧ z0 = []) ∨ ∃ x, a0 = some x ∧ len0 ≤ cap0 ∧ cap0 ≤ maxLen ∧ z0.length = cap0 ∧ (∀ i, i < z0.length → w.cell? (x.add i) = some (.int .i64 (z0.getD i 0))) ∧ ∀ n ∈ z0, (Lit.int .i64 n).wf = true) (y0 : len0 * 8 ≤ 140737488351232) (w1 : a1.size ≤ 140737488351232) (w2 : (Lit.int .i64 a2).wf = true) :
    Calls Try.prog 9 #[.slice a0 len0 cap0, .string a1, .int .i64 a2] w fun e w' => e = .returned (.bool true) ∧ Below w.heap.size w w' := by
  obtain ⟨l0, rfl, hr0, hm0, hw0, hc0⟩ := ReadsInt.ofRowC w0
  obtain ⟨k, h⟩ := P l0 a1 a2 hm0 y0 hw0 w1 w2
  refine (letterlocklaw3_TermParts.calls k _ _ l0 a1 a2 true w (Kd.C_of_reads (d := (0 : Int)) (h1 := fun _ => rfl) hr0) hc0 h).mono ?_
  rintro e w' ⟨rfl, hd⟩
  exact ⟨rfl, hd⟩

end Go.Proofs.Ytfkkmagiobfeiaa.P
