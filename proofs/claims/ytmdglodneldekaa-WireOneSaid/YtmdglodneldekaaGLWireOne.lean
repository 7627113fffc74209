/- Printed for this claim by wip/myprint.py out of the translation: Lean functions with the answers of the Go functions, and proofs that the Go code comes to them. Lean checks it. -/
import Derived.Test.YtmdglodneldekaaG0
import Derived.Test.YtmdglodneldekaaGLaw2
import Derived.Test.YtmdglodneldekaaGWire
import Derived.Test.YtmdglodneldekaaXTake
namespace Go.Proofs.Ytmdglodneldekaa.P
open Go.RowKit Go.Proofs.YtmdglodneldekaaW.PrintWords Go.Proofs.YtmdglodneldekaaW.PrintLast Go.Proofs.YtmdglodneldekaaW.PrintMore
attribute [local go_sem] max2_int min2_int max_two min_two max_three min_three max_four min_four   -- for this text's walks alone
set_option linter.unusedVariables false
set_option linter.unusedSimpArgs false

/-! ### letterlocklaw2_WireOne: function 8 -/
mutual
def letterlocklaw2_WireOne.j0 : Nat → ByteArray → Bool → Bool → Option (Bool)
  | 0, _, _, _ => none
  | k + 1, x0, x3, x19 => if x19 = true then (some x3) else ((wire_Take.f x0).bind fun bt251 => (if bt251.2.2 = 0 then ((wire_Put.f k bt251.1).bind fun t254 => (if t254.size + bt251.2.1.size ≤ 9223372036854775807 then (if (t254 ++ bt251.2.1).toList = x0.toList then (letterlocklaw2_WireOne.j1 k x0 false) else (letterlocklaw2_WireOne.j1 k x0 true)) else (none))) else (if bt251.2.2 = 2 then (if bt251.1 = 0 then (letterlocklaw2_WireOne.j1 k x0 (bt251.2.1.toList != ([] : List UInt8))) else (letterlocklaw2_WireOne.j1 k x0 true)) else (letterlocklaw2_WireOne.j1 k x0 true))))
def letterlocklaw2_WireOne.j1 : Nat → ByteArray → Bool → Option (Bool)
  | 0, _, _ => none
  | k + 1, x0, x52 => if x52 = true then (some false) else ((wire_TakeText.f k x0 4000).bind fun bt255 => (if bt255.2.2 = 0 then ((wire_PutText.f k bt255.1).bind fun t258 => (if t258.size + bt255.2.1.size ≤ 9223372036854775807 then (if (t258 ++ bt255.2.1).toList = x0.toList then (letterlocklaw2_WireOne.j2 k x0 false) else (letterlocklaw2_WireOne.j2 k x0 true)) else (none))) else (if bt255.1.toList = ([] : List UInt8) then (letterlocklaw2_WireOne.j2 k x0 (bt255.2.1.toList != ([] : List UInt8))) else (letterlocklaw2_WireOne.j2 k x0 true))))
def letterlocklaw2_WireOne.j2 : Nat → ByteArray → Bool → Option (Bool)
  | 0, _, _ => none
  | k + 1, x0, x80 => if x80 = true then (some false) else ((wire_TakeAll.f k x0 4000 4000).bind fun bt259 => (if bt259.2 = 0 then ((wire_PutAll.f k bt259.1).bind fun t263 => (if t263.toList = x0.toList then (some true) else (some false))) else (some ((bt259.1.length : Int) == 0))))
end
def letterlocklaw2_WireOne.f (k : Nat) (a0 : ByteArray) : Option (Bool) := (letterlocklaw2_shown.f k).bind fun t250 => (if t250 = true then (letterlocklaw2_WireOne.j0 k a0 t250 (decide ((a0.size : Int) > 4000))) else (letterlocklaw2_WireOne.j0 k a0 t250 true))
theorem letterlocklaw2_WireOne.mono_l : ∀ k, (∀ y0 y1 y2, LeO (letterlocklaw2_WireOne.j0 k y0 y1 y2) (letterlocklaw2_WireOne.j0 (k + 1) y0 y1 y2)) ∧ (∀ y0 y1, LeO (letterlocklaw2_WireOne.j1 k y0 y1) (letterlocklaw2_WireOne.j1 (k + 1) y0 y1)) ∧ (∀ y0 y1, LeO (letterlocklaw2_WireOne.j2 k y0 y1) (letterlocklaw2_WireOne.j2 (k + 1) y0 y1))
  | 0 => ⟨fun _ _ _ r h => by simp [letterlocklaw2_WireOne.j0] at h, fun _ _ r h => by simp [letterlocklaw2_WireOne.j1] at h, fun _ _ r h => by simp [letterlocklaw2_WireOne.j2] at h⟩
  | k + 1 => by
    obtain ⟨ih0, ih1, ih2⟩ := letterlocklaw2_WireOne.mono_l k
    refine ⟨?_, ?_, ?_⟩
    · intro y0 y1 y2
      unfold letterlocklaw2_WireOne.j0
      repeat' first
      | (with_reducible exact ih0 _ _ _)
      | (with_reducible exact ih1 _ _)
      | (with_reducible exact ih2 _ _)
      | (with_reducible exact letterlocklaw2_shown.mono _)
      | (with_reducible exact wire_Put.mono _ _)
      | (with_reducible exact wire_PutAll.mono _ _)
      | (with_reducible exact wire_PutText.mono _ _)
      | (with_reducible exact wire_TakeAll.mono _ _ _ _)
      | (with_reducible exact wire_TakeText.mono _ _ _)
      | (with_reducible exact LeO.refl _)
      | (with_reducible exact LeO.none _)
      | (with_reducible refine LeO.ite ?_ ?_)
      | (with_reducible refine LeO.bind ?_ (fun _ => ?_))
      | exact ih0 _ _ _
      | exact ih1 _ _
      | exact ih2 _ _
      | exact letterlocklaw2_shown.mono _
      | exact wire_Put.mono _ _
      | exact wire_PutAll.mono _ _
      | exact wire_PutText.mono _ _
      | exact wire_TakeAll.mono _ _ _ _
      | exact wire_TakeText.mono _ _ _
      | exact LeO.none _
      | refine LeO.ite ?_ ?_
      | refine LeO.bind ?_ (fun _ => ?_)
    · intro y0 y1
      unfold letterlocklaw2_WireOne.j1
      repeat' first
      | (with_reducible exact ih0 _ _ _)
      | (with_reducible exact ih1 _ _)
      | (with_reducible exact ih2 _ _)
      | (with_reducible exact letterlocklaw2_shown.mono _)
      | (with_reducible exact wire_Put.mono _ _)
      | (with_reducible exact wire_PutAll.mono _ _)
      | (with_reducible exact wire_PutText.mono _ _)
      | (with_reducible exact wire_TakeAll.mono _ _ _ _)
      | (with_reducible exact wire_TakeText.mono _ _ _)
      | (with_reducible exact LeO.refl _)
      | (with_reducible exact LeO.none _)
      | (with_reducible refine LeO.ite ?_ ?_)
      | (with_reducible refine LeO.bind ?_ (fun _ => ?_))
      | exact ih0 _ _ _
      | exact ih1 _ _
      | exact ih2 _ _
      | exact letterlocklaw2_shown.mono _
      | exact wire_Put.mono _ _
      | exact wire_PutAll.mono _ _
      | exact wire_PutText.mono _ _
      | exact wire_TakeAll.mono _ _ _ _
      | exact wire_TakeText.mono _ _ _
      | exact LeO.none _
      | refine LeO.ite ?_ ?_
      | refine LeO.bind ?_ (fun _ => ?_)
    · intro y0 y1
      unfold letterlocklaw2_WireOne.j2
      repeat' first
      | (with_reducible exact ih0 _ _ _)
      | (with_reducible exact ih1 _ _)
      | (with_reducible exact ih2 _ _)
      | (with_reducible exact letterlocklaw2_shown.mono _)
      | (with_reducible exact wire_Put.mono _ _)
      | (with_reducible exact wire_PutAll.mono _ _)
      | (with_reducible exact wire_PutText.mono _ _)
      | (with_reducible exact wire_TakeAll.mono _ _ _ _)
      | (with_reducible exact wire_TakeText.mono _ _ _)
      | (with_reducible exact LeO.refl _)
      | (with_reducible exact LeO.none _)
      | (with_reducible refine LeO.ite ?_ ?_)
      | (with_reducible refine LeO.bind ?_ (fun _ => ?_))
      | exact ih0 _ _ _
      | exact ih1 _ _
      | exact ih2 _ _
      | exact letterlocklaw2_shown.mono _
      | exact wire_Put.mono _ _
      | exact wire_PutAll.mono _ _
      | exact wire_PutText.mono _ _
      | exact wire_TakeAll.mono _ _ _ _
      | exact wire_TakeText.mono _ _ _
      | exact LeO.none _
      | refine LeO.ite ?_ ?_
      | refine LeO.bind ?_ (fun _ => ?_)
theorem letterlocklaw2_WireOne.mono : ∀ a0 k, LeO (letterlocklaw2_WireOne.f k a0) (letterlocklaw2_WireOne.f (k + 1) a0) := by
  intro a0 k
  obtain ⟨ih0, ih1, ih2⟩ := letterlocklaw2_WireOne.mono_l k
  unfold letterlocklaw2_WireOne.f
  repeat' first
      | (with_reducible exact ih0 _ _ _)
      | (with_reducible exact ih1 _ _)
      | (with_reducible exact ih2 _ _)
      | (with_reducible exact letterlocklaw2_shown.mono _)
      | (with_reducible exact wire_Put.mono _ _)
      | (with_reducible exact wire_PutAll.mono _ _)
      | (with_reducible exact wire_PutText.mono _ _)
      | (with_reducible exact wire_TakeAll.mono _ _ _ _)
      | (with_reducible exact wire_TakeText.mono _ _ _)
      | (with_reducible exact LeO.refl _)
      | (with_reducible exact LeO.none _)
      | (with_reducible refine LeO.ite ?_ ?_)
      | (with_reducible refine LeO.bind ?_ (fun _ => ?_))
      | exact ih0 _ _ _
      | exact ih1 _ _
      | exact ih2 _ _
      | exact letterlocklaw2_shown.mono _
      | exact wire_Put.mono _ _
      | exact wire_PutAll.mono _ _
      | exact wire_PutText.mono _ _
      | exact wire_TakeAll.mono _ _ _ _
      | exact wire_TakeText.mono _ _ _
      | exact LeO.none _
      | refine LeO.ite ?_ ?_
      | refine LeO.bind ?_ (fun _ => ?_)
set_option maxHeartbeats 8000000 in
set_option maxRecDepth 100000 in
theorem letterlocklaw2_WireOne.calls (k : Nat) (a0 : ByteArray) (r : Bool) (w : World) (h : letterlocklaw2_WireOne.f k a0 = some r) :
    Calls Try.prog 8 #[.string a0] w fun e w' => e = .returned (.bool r) ∧ Below w.heap.size w w' := by
  have HB := Aside0.mk (Below.refl w.heap.size w)
  have H : ((letterlocklaw2_shown.f k).bind fun t250 => (if t250 = true then (letterlocklaw2_WireOne.j0 k a0 t250 (decide ((a0.size : Int) > 4000))) else (letterlocklaw2_WireOne.j0 k a0 t250 true))) = some r := h
  clear h
  replace H := Option.bind_eq_some_iff.mp H
  obtain ⟨t250, A20, H⟩ := H
  replace H : (if t250 = true then (letterlocklaw2_WireOne.j0 k a0 t250 (decide ((a0.size : Int) > 4000))) else (letterlocklaw2_WireOne.j0 k a0 t250 true)) = some r := H
  have A2 := Aside0.mk A20
  clear A20
  have HC3 := Aside0.mk H
  clear H
  go_enter Try.func8, Try.ntmps8
  go_upto_region 2 with (first | ((with_reducible refine gate_callee (f := 10) rfl ?_); refine goesL_ (some 12) rfl rfl Try.func10 (by kernel_rfl) rfl #[] rfl (by (try simp only [List.map_toArray, List.map_cons, List.map_nil]); first | done | rfl | (simp only [List.length_drop, List.length_take]; rfl)) ?_; (with_reducible refine (letterlocklaw2_shown.calls k  t250 _ A2.out).mono ?_); rintro e w4 ⟨rfl, hb⟩; refine ⟨_, rfl, ?_⟩; have n0_ := Aside0.mk (below_step (by repeat (first | (with_reducible first | exact HB.out | apply below_alloc | apply pw_below_drewN | apply below_drew1) | exact HB.out)) hb); clear HB; have HB := n0_; clear n0_; (try clear hb); (try clear hb2); (try clear hk); (try clear hi)))
  (try simp only [Act.put, List.setIfInBounds_toArray, List.set_cons_zero, List.set_cons_succ])
  go_cut [19] (fun v19 wc => ∃ (kq : Nat) (x19_2 : Bool), v19 = .bool x19_2 ∧ Aside0 (letterlocklaw2_WireOne.j0 kq a0 t250 x19_2 = some r) ∧ Aside0 (kq ≤ k) ∧ Aside0 (Below w.heap.size w wc))
  case first =>
    have H := HC3.out
    clear HC3
    by_cases c5 : t250 = true
    · subst c5
      have H1 : (letterlocklaw2_WireOne.j0 k a0 true (decide ((a0.size : Int) > 4000))) = some r := by rw [if_pos rfl] at H; exact H
      clear H
      have H := H1
      clear H1
      have H' := Aside0.mk H
      clear H
      go_wp2
      go_meet
      case rel => exact ⟨_, (decide ((a0.size : Int) > 4000)), (by first | rfl | (simp; done) | (simp [*]; done) | (simp; exact isEmpty_ne _)), H', ⟨by first | omega | exact Nat.le_refl _⟩, ⟨by repeat (first | (with_reducible first | exact HB.out | apply below_alloc | apply pw_below_drewN | apply below_drew1) | exact HB.out)⟩⟩
    · replace c5 := Bool.eq_false_iff.mpr c5
      subst c5
      have H1 : (letterlocklaw2_WireOne.j0 k a0 false true) = some r := by rw [if_neg (show ¬ (false = true) by decide)] at H; exact H
      clear H
      have H := H1
      clear H1
      have H' := Aside0.mk H
      clear H
      go_wp2
      go_meet
      case rel => exact ⟨_, (true), (by first | rfl | (simp; done) | (simp [*]; done) | (simp; exact isEmpty_ne _)), H', ⟨by first | omega | exact Nat.le_refl _⟩, ⟨by repeat (first | (with_reducible first | exact HB.out | apply below_alloc | apply pw_below_drewN | apply below_drew1) | exact HB.out)⟩⟩
  case rest =>
    clear HC3
    try clear c1
    try clear p2
    try clear c5
    obtain ⟨kq, x19_2, rfl, HA, HJ2, HB⟩ := hcut
    cases kq with
    | zero => exact absurd HA.out (by simp [letterlocklaw2_WireOne.j0])
    | succ kj2 =>
      have H := HA.out
      clear HA
      simp only [letterlocklaw2_WireOne.j0] at H
      by_cases c6 : x19_2 = true
      · subst c6
        have H1 : (some t250) = some r := by rw [if_pos rfl] at H; exact H
        clear H
        have H := H1
        clear H1
        obtain rfl := Option.some.inj H
        go_wp2
        go_ret
        exact ⟨by first | rfl | (simp [errW_none, errW_some] <;> rfl) | (simp [*, errW_none, errW_some] <;> rfl), by repeat (first | (with_reducible first | exact HB.out | apply below_alloc | apply pw_below_drewN | apply below_drew1) | exact HB.out)⟩
      · replace c6 := Bool.eq_false_iff.mpr c6
        subst c6
        have H1 : ((wire_Take.f a0).bind fun bt251 => (if bt251.2.2 = 0 then ((wire_Put.f kj2 bt251.1).bind fun t254 => (if t254.size + bt251.2.1.size ≤ 9223372036854775807 then (if (t254 ++ bt251.2.1).toList = a0.toList then (letterlocklaw2_WireOne.j1 kj2 a0 false) else (letterlocklaw2_WireOne.j1 kj2 a0 true)) else (none))) else (if bt251.2.2 = 2 then (if bt251.1 = 0 then (letterlocklaw2_WireOne.j1 kj2 a0 (bt251.2.1.toList != ([] : List UInt8))) else (letterlocklaw2_WireOne.j1 kj2 a0 true)) else (letterlocklaw2_WireOne.j1 kj2 a0 true)))) = some r := by rw [if_neg (show ¬ (false = true) by decide)] at H; exact H
        clear H
        have H := H1
        clear H1
        replace H := Option.bind_eq_some_iff.mp H
        obtain ⟨⟨t251, t252, t253⟩, A70, H⟩ := H
        replace H : (if t253 = 0 then ((wire_Put.f kj2 t251).bind fun t254 => (if t254.size + t252.size ≤ 9223372036854775807 then (if (t254 ++ t252).toList = a0.toList then (letterlocklaw2_WireOne.j1 kj2 a0 false) else (letterlocklaw2_WireOne.j1 kj2 a0 true)) else (none))) else (if t253 = 2 then (if t251 = 0 then (letterlocklaw2_WireOne.j1 kj2 a0 (t252.toList != ([] : List UInt8))) else (letterlocklaw2_WireOne.j1 kj2 a0 true)) else (letterlocklaw2_WireOne.j1 kj2 a0 true))) = some r := H
        have A7 := Aside0.mk A70
        clear A70
        have HC8 := Aside0.mk H
        clear H
        go_upto_region 5 with (first | ((with_reducible refine gate_callee (f := 12) rfl ?_); refine goesL_ (some 23) rfl rfl Try.func12 (by kernel_rfl) rfl #[.string a0] rfl (by (try simp only [List.map_toArray, List.map_cons, List.map_nil]); first | done | rfl | (simp only [List.length_drop, List.length_take]; rfl)) ?_; (with_reducible refine (wire_Take.calls a0 t251 t252 t253 _ A7.out).mono ?_); rintro e w9 ⟨rfl, hb⟩; refine ⟨_, rfl, ?_⟩; have n0_ := Aside0.mk (below_step (by repeat (first | (with_reducible first | exact HB.out | apply below_alloc | apply pw_below_drewN | apply below_drew1) | exact HB.out)) hb); clear HB; have HB := n0_; clear n0_; (try clear hb); (try clear hb2); (try clear hk); (try clear hi)))
        (try simp only [Act.put, List.setIfInBounds_toArray, List.set_cons_zero, List.set_cons_succ])
        go_cut [52] (fun v52 wc => ∃ (kq : Nat) (x52_7 : Bool), v52 = .bool x52_7 ∧ Aside0 (letterlocklaw2_WireOne.j1 kq a0 x52_7 = some r) ∧ Aside0 (kq ≤ kj2) ∧ Aside0 (Below w.heap.size w wc))
        case first =>
          have H := HC8.out
          clear HC8
          by_cases c10 : t253 = 0
          · rw [if_pos c10] at H
            have c10b0 : (t253 == 0) = true := beq_iff_eq.mpr c10
            have c10b1 : (t253 != 0) = false := bne_eq_false_iff_eq.mpr c10
            clear c10
            (first | rw [c10b0] | (simp only [i64_w, i32_w]; rw [c10b0]) | skip)
            replace H := Option.bind_eq_some_iff.mp H
            obtain ⟨t254, A110, H⟩ := H
            replace H : (if t254.size + t252.size ≤ 9223372036854775807 then (if (t254 ++ t252).toList = a0.toList then (letterlocklaw2_WireOne.j1 kj2 a0 false) else (letterlocklaw2_WireOne.j1 kj2 a0 true)) else (none)) = some r := H
            have A11 := Aside0.mk A110
            clear A110
            by_cases c12 : t254.size + t252.size ≤ 9223372036854775807
            · rw [if_pos c12] at H
              have c12b0 := eq_true c12
              have c12b1 : decide (t254.size + t252.size ≤ 9223372036854775807) = true := decide_eq_true c12
              try have c12b2 : (9223372036854775807 < t254.size + t252.size) = False := eq_false (Nat.not_lt.2 c12)
              by_cases c13 : (t254 ++ t252).toList = a0.toList
              · rw [if_pos c13] at H
                have c13b0 : ((t254 ++ t252).toList == a0.toList) = true := beq_iff_eq.mpr c13
                have c13b1 : ((t254 ++ t252).toList != a0.toList) = false := bne_eq_false_iff_eq.mpr c13
                clear c13
                have H' := Aside0.mk H
                clear H
                go_wp2_with (first | (go_at_call 11; (with_reducible refine (wire_Put.calls kj2 t251 t254 _ A11.out).mono ?_); rintro e w14 ⟨rfl, hb⟩; have n0_ := Aside0.mk (below_step (by repeat (first | (with_reducible first | exact HB.out | apply below_alloc | apply pw_below_drewN | apply below_drew1) | exact HB.out)) hb); clear HB; have HB := n0_; clear n0_; (try clear hb); (try clear hb2); (try clear hk); (try clear hi)))
                go_meet
                case rel => exact ⟨_, (false), (by first | rfl | (simp; done) | (simp [*]; done) | (simp; exact isEmpty_ne _)), H', ⟨by have := HJ2.out; first | omega | exact Nat.le_refl _⟩, ⟨by repeat (first | (with_reducible first | exact HB.out | apply below_alloc | apply pw_below_drewN | apply below_drew1) | exact HB.out)⟩⟩
              · rw [if_neg c13] at H
                have c13b0 : ((t254 ++ t252).toList == a0.toList) = false := beq_eq_false_iff_ne.mpr c13
                have c13b1 : ((t254 ++ t252).toList != a0.toList) = true := bne_iff_ne.mpr c13
                have H' := Aside0.mk H
                clear H
                go_wp2_with (first | (go_at_call 11; (with_reducible refine (wire_Put.calls kj2 t251 t254 _ A11.out).mono ?_); rintro e w15 ⟨rfl, hb⟩; have n0_ := Aside0.mk (below_step (by repeat (first | (with_reducible first | exact HB.out | apply below_alloc | apply pw_below_drewN | apply below_drew1) | exact HB.out)) hb); clear HB; have HB := n0_; clear n0_; (try clear hb); (try clear hb2); (try clear hk); (try clear hi)))
                go_meet
                case rel => exact ⟨_, (true), (by first | rfl | (simp; done) | (simp [*]; done) | (simp; exact isEmpty_ne _)), H', ⟨by have := HJ2.out; first | omega | exact Nat.le_refl _⟩, ⟨by repeat (first | (with_reducible first | exact HB.out | apply below_alloc | apply pw_below_drewN | apply below_drew1) | exact HB.out)⟩⟩
            · rw [if_neg c12] at H
              exact absurd H (by simp)
          · rw [if_neg c10] at H
            have c10b0 : (t253 == 0) = false := beq_eq_false_iff_ne.mpr c10
            have c10b1 : (t253 != 0) = true := bne_iff_ne.mpr c10
            (first | rw [c10b0] | (simp only [i64_w, i32_w]; rw [c10b0]) | skip)
            by_cases c16 : t253 = 2
            · rw [if_pos c16] at H
              have c16b0 : (t253 == 2) = true := beq_iff_eq.mpr c16
              have c16b1 : (t253 != 2) = false := bne_eq_false_iff_eq.mpr c16
              clear c16
              by_cases c17 : t251 = 0
              · rw [if_pos c17] at H
                have c17b0 : (t251 == 0) = true := beq_iff_eq.mpr c17
                have c17b1 : (t251 != 0) = false := bne_eq_false_iff_eq.mpr c17
                clear c17
                have H' := Aside0.mk H
                clear H
                go_wp2
                go_meet
                case rel => exact ⟨_, ((t252.toList != ([] : List UInt8))), (by first | rfl | (simp; done) | (simp [*]; done) | (simp; exact isEmpty_ne _)), H', ⟨by have := HJ2.out; first | omega | exact Nat.le_refl _⟩, ⟨by repeat (first | (with_reducible first | exact HB.out | apply below_alloc | apply pw_below_drewN | apply below_drew1) | exact HB.out)⟩⟩
              · rw [if_neg c17] at H
                have c17b0 : (t251 == 0) = false := beq_eq_false_iff_ne.mpr c17
                have c17b1 : (t251 != 0) = true := bne_iff_ne.mpr c17
                have H' := Aside0.mk H
                clear H
                go_wp2
                go_meet
                case rel => exact ⟨_, (true), (by first | rfl | (simp; done) | (simp [*]; done) | (simp; exact isEmpty_ne _)), H', ⟨by have := HJ2.out; first | omega | exact Nat.le_refl _⟩, ⟨by repeat (first | (with_reducible first | exact HB.out | apply below_alloc | apply pw_below_drewN | apply below_drew1) | exact HB.out)⟩⟩
            · rw [if_neg c16] at H
              have c16b0 : (t253 == 2) = false := beq_eq_false_iff_ne.mpr c16
              have c16b1 : (t253 != 2) = true := bne_iff_ne.mpr c16
              have H' := Aside0.mk H
              clear H
              go_wp2
              go_meet
              case rel => exact ⟨_, (true), (by first | rfl | (simp; done) | (simp [*]; done) | (simp; exact isEmpty_ne _)), H', ⟨by have := HJ2.out; first | omega | exact Nat.le_refl _⟩, ⟨by repeat (first | (with_reducible first | exact HB.out | apply below_alloc | apply pw_below_drewN | apply below_drew1) | exact HB.out)⟩⟩
        case rest =>
          clear HC8
          try clear c1
          try clear p2
          try clear c5
          try clear c6
          try clear c8
          try clear c10
          try clear c10b0
          try clear c10b1
          try clear c12
          try clear c12b0
          try clear c12b1
          try clear c12b2
          try clear c13
          try clear c13b0
          try clear c13b1
          try clear c16
          try clear c16b0
          try clear c16b1
          try clear c17
          try clear c17b0
          try clear c17b1
          try clear p2
          obtain ⟨kq, x52_7, rfl, HA, HJ7, HB⟩ := hcut
          cases kq with
          | zero => exact absurd HA.out (by simp [letterlocklaw2_WireOne.j1])
          | succ kj7 =>
            have H := HA.out
            clear HA
            simp only [letterlocklaw2_WireOne.j1] at H
            by_cases c18 : x52_7 = true
            · subst c18
              have H1 : (some false) = some r := by rw [if_pos rfl] at H; exact H
              clear H
              have H := H1
              clear H1
              obtain rfl := Option.some.inj H
              go_wp2
              go_ret
              exact ⟨by first | rfl | (simp [errW_none, errW_some] <;> rfl) | (simp [*, errW_none, errW_some] <;> rfl), by repeat (first | (with_reducible first | exact HB.out | apply below_alloc | apply pw_below_drewN | apply below_drew1) | exact HB.out)⟩
            · replace c18 := Bool.eq_false_iff.mpr c18
              subst c18
              have H1 : ((wire_TakeText.f kj7 a0 4000).bind fun bt255 => (if bt255.2.2 = 0 then ((wire_PutText.f kj7 bt255.1).bind fun t258 => (if t258.size + bt255.2.1.size ≤ 9223372036854775807 then (if (t258 ++ bt255.2.1).toList = a0.toList then (letterlocklaw2_WireOne.j2 kj7 a0 false) else (letterlocklaw2_WireOne.j2 kj7 a0 true)) else (none))) else (if bt255.1.toList = ([] : List UInt8) then (letterlocklaw2_WireOne.j2 kj7 a0 (bt255.2.1.toList != ([] : List UInt8))) else (letterlocklaw2_WireOne.j2 kj7 a0 true)))) = some r := by rw [if_neg (show ¬ (false = true) by decide)] at H; exact H
              clear H
              have H := H1
              clear H1
              replace H := Option.bind_eq_some_iff.mp H
              obtain ⟨⟨t255, t256, t257⟩, A190, H⟩ := H
              replace H : (if t257 = 0 then ((wire_PutText.f kj7 t255).bind fun t258 => (if t258.size + t256.size ≤ 9223372036854775807 then (if (t258 ++ t256).toList = a0.toList then (letterlocklaw2_WireOne.j2 kj7 a0 false) else (letterlocklaw2_WireOne.j2 kj7 a0 true)) else (none))) else (if t255.toList = ([] : List UInt8) then (letterlocklaw2_WireOne.j2 kj7 a0 (t256.toList != ([] : List UInt8))) else (letterlocklaw2_WireOne.j2 kj7 a0 true))) = some r := H
              have A19 := Aside0.mk A190
              clear A190
              have HC20 := Aside0.mk H
              clear H
              go_upto_region 8 with (first | ((with_reducible refine gate_callee (f := 14) rfl ?_); refine goesL_ (some 55) rfl rfl Try.func14 (by kernel_rfl) rfl #[.string a0, .int .i64 4000] rfl (by (try simp only [List.map_toArray, List.map_cons, List.map_nil]); first | done | rfl | (simp only [List.length_drop, List.length_take]; rfl)) ?_; (with_reducible refine (wire_TakeText.calls kj7 a0 4000 t255 t256 t257 _ A19.out).mono ?_); rintro e w21 ⟨rfl, hb⟩; refine ⟨_, rfl, ?_⟩; have n0_ := Aside0.mk (below_step (by repeat (first | (with_reducible first | exact HB.out | apply below_alloc | apply pw_below_drewN | apply below_drew1) | exact HB.out)) hb); clear HB; have HB := n0_; clear n0_; (try clear hb); (try clear hb2); (try clear hk); (try clear hi)))
              (try simp only [Act.put, List.setIfInBounds_toArray, List.set_cons_zero, List.set_cons_succ])
              go_cut [80] (fun v80 wc => ∃ (kq : Nat) (x80_19 : Bool), v80 = .bool x80_19 ∧ Aside0 (letterlocklaw2_WireOne.j2 kq a0 x80_19 = some r) ∧ Aside0 (kq ≤ kj7) ∧ Aside0 (Below w.heap.size w wc))
              case first =>
                have H := HC20.out
                clear HC20
                by_cases c22 : t257 = 0
                · rw [if_pos c22] at H
                  have c22b0 : (t257 == 0) = true := beq_iff_eq.mpr c22
                  have c22b1 : (t257 != 0) = false := bne_eq_false_iff_eq.mpr c22
                  clear c22
                  (first | rw [c22b0] | (simp only [i64_w, i32_w]; rw [c22b0]) | skip)
                  replace H := Option.bind_eq_some_iff.mp H
                  obtain ⟨t258, A230, H⟩ := H
                  replace H : (if t258.size + t256.size ≤ 9223372036854775807 then (if (t258 ++ t256).toList = a0.toList then (letterlocklaw2_WireOne.j2 kj7 a0 false) else (letterlocklaw2_WireOne.j2 kj7 a0 true)) else (none)) = some r := H
                  have A23 := Aside0.mk A230
                  clear A230
                  by_cases c24 : t258.size + t256.size ≤ 9223372036854775807
                  · rw [if_pos c24] at H
                    have c24b0 := eq_true c24
                    have c24b1 : decide (t258.size + t256.size ≤ 9223372036854775807) = true := decide_eq_true c24
                    try have c24b2 : (9223372036854775807 < t258.size + t256.size) = False := eq_false (Nat.not_lt.2 c24)
                    by_cases c25 : (t258 ++ t256).toList = a0.toList
                    · rw [if_pos c25] at H
                      have c25b0 : ((t258 ++ t256).toList == a0.toList) = true := beq_iff_eq.mpr c25
                      have c25b1 : ((t258 ++ t256).toList != a0.toList) = false := bne_eq_false_iff_eq.mpr c25
                      clear c25
                      have H' := Aside0.mk H
                      clear H
                      go_wp2_with (first | (go_at_call 20; (with_reducible refine (wire_PutText.calls kj7 t255 t258 _ A23.out).mono ?_); rintro e w26 ⟨rfl, hb⟩; have n0_ := Aside0.mk (below_step (by repeat (first | (with_reducible first | exact HB.out | apply below_alloc | apply pw_below_drewN | apply below_drew1) | exact HB.out)) hb); clear HB; have HB := n0_; clear n0_; (try clear hb); (try clear hb2); (try clear hk); (try clear hi)))
                      go_meet
                      case rel => exact ⟨_, (false), (by first | rfl | (simp; done) | (simp [*]; done) | (simp; exact isEmpty_ne _)), H', ⟨by have := HJ2.out; have := HJ7.out; first | omega | exact Nat.le_refl _⟩, ⟨by repeat (first | (with_reducible first | exact HB.out | apply below_alloc | apply pw_below_drewN | apply below_drew1) | exact HB.out)⟩⟩
                    · rw [if_neg c25] at H
                      have c25b0 : ((t258 ++ t256).toList == a0.toList) = false := beq_eq_false_iff_ne.mpr c25
                      have c25b1 : ((t258 ++ t256).toList != a0.toList) = true := bne_iff_ne.mpr c25
                      have H' := Aside0.mk H
                      clear H
                      go_wp2_with (first | (go_at_call 20; (with_reducible refine (wire_PutText.calls kj7 t255 t258 _ A23.out).mono ?_); rintro e w27 ⟨rfl, hb⟩; have n0_ := Aside0.mk (below_step (by repeat (first | (with_reducible first | exact HB.out | apply below_alloc | apply pw_below_drewN | apply below_drew1) | exact HB.out)) hb); clear HB; have HB := n0_; clear n0_; (try clear hb); (try clear hb2); (try clear hk); (try clear hi)))
                      go_meet
                      case rel => exact ⟨_, (true), (by first | rfl | (simp; done) | (simp [*]; done) | (simp; exact isEmpty_ne _)), H', ⟨by have := HJ2.out; have := HJ7.out; first | omega | exact Nat.le_refl _⟩, ⟨by repeat (first | (with_reducible first | exact HB.out | apply below_alloc | apply pw_below_drewN | apply below_drew1) | exact HB.out)⟩⟩
                  · rw [if_neg c24] at H
                    exact absurd H (by simp)
                · rw [if_neg c22] at H
                  have c22b0 : (t257 == 0) = false := beq_eq_false_iff_ne.mpr c22
                  have c22b1 : (t257 != 0) = true := bne_iff_ne.mpr c22
                  (first | rw [c22b0] | (simp only [i64_w, i32_w]; rw [c22b0]) | skip)
                  by_cases c28 : t255.toList = ([] : List UInt8)
                  · rw [if_pos c28] at H
                    have c28b0 : (t255.toList == ([] : List UInt8)) = true := beq_iff_eq.mpr c28
                    have c28b1 : (t255.toList != ([] : List UInt8)) = false := bne_eq_false_iff_eq.mpr c28
                    clear c28
                    have H' := Aside0.mk H
                    clear H
                    go_wp2
                    go_meet
                    case rel => exact ⟨_, ((t256.toList != ([] : List UInt8))), (by first | rfl | (simp; done) | (simp [*]; done) | (simp; exact isEmpty_ne _)), H', ⟨by have := HJ2.out; have := HJ7.out; first | omega | exact Nat.le_refl _⟩, ⟨by repeat (first | (with_reducible first | exact HB.out | apply below_alloc | apply pw_below_drewN | apply below_drew1) | exact HB.out)⟩⟩
                  · rw [if_neg c28] at H
                    have c28b0 : (t255.toList == ([] : List UInt8)) = false := beq_eq_false_iff_ne.mpr c28
                    have c28b1 : (t255.toList != ([] : List UInt8)) = true := bne_iff_ne.mpr c28
                    have H' := Aside0.mk H
                    clear H
                    go_wp2
                    go_meet
                    case rel => exact ⟨_, (true), (by first | rfl | (simp; done) | (simp [*]; done) | (simp; exact isEmpty_ne _)), H', ⟨by have := HJ2.out; have := HJ7.out; first | omega | exact Nat.le_refl _⟩, ⟨by repeat (first | (with_reducible first | exact HB.out | apply below_alloc | apply pw_below_drewN | apply below_drew1) | exact HB.out)⟩⟩
              case rest =>
                clear HC20
                try clear c1
                try clear c2
                try clear p2
                try clear c5
                try clear c6
                try clear c8
                try clear c10
                try clear c10b0
                try clear c10b1
                try clear c12
                try clear c12b0
                try clear c12b1
                try clear c12b2
                try clear c13
                try clear c13b0
                try clear c13b1
                try clear c14
                try clear c16
                try clear c16b0
                try clear c16b1
                try clear c17
                try clear c17b0
                try clear c17b1
                try clear c18
                try clear c22
                try clear c22b0
                try clear c22b1
                try clear c24
                try clear c24b0
                try clear c24b1
                try clear c24b2
                try clear c25
                try clear c25b0
                try clear c25b1
                try clear c28
                try clear c28b0
                try clear c28b1
                try clear p2
                obtain ⟨kq, x80_19, rfl, HA, HJ19, HB⟩ := hcut
                cases kq with
                | zero => exact absurd HA.out (by simp [letterlocklaw2_WireOne.j2])
                | succ kj19 =>
                  have H := HA.out
                  clear HA
                  simp only [letterlocklaw2_WireOne.j2] at H
                  by_cases c29 : x80_19 = true
                  · subst c29
                    have H1 : (some false) = some r := by rw [if_pos rfl] at H; exact H
                    clear H
                    have H := H1
                    clear H1
                    obtain rfl := Option.some.inj H
                    go_wp2
                    go_ret
                    exact ⟨by first | rfl | (simp [errW_none, errW_some] <;> rfl) | (simp [*, errW_none, errW_some] <;> rfl), by repeat (first | (with_reducible first | exact HB.out | apply below_alloc | apply pw_below_drewN | apply below_drew1) | exact HB.out)⟩
                  · replace c29 := Bool.eq_false_iff.mpr c29
                    subst c29
                    have H1 : ((wire_TakeAll.f kj19 a0 4000 4000).bind fun bt259 => (if bt259.2 = 0 then ((wire_PutAll.f kj19 bt259.1).bind fun t263 => (if t263.toList = a0.toList then (some true) else (some false))) else (some ((bt259.1.length : Int) == 0)))) = some r := by rw [if_neg (show ¬ (false = true) by decide)] at H; exact H
                    clear H
                    have H := H1
                    clear H1
                    replace H := Option.bind_eq_some_iff.mp H
                    obtain ⟨⟨t259, t260⟩, A300, H⟩ := H
                    replace H : (if t260 = 0 then ((wire_PutAll.f kj19 t259).bind fun t263 => (if t263.toList = a0.toList then (some true) else (some false))) else (some ((t259.length : Int) == 0))) = some r := H
                    have A30 := Aside0.mk A300
                    clear A300
                    by_cases c31 : t260 = 0
                    · rw [if_pos c31] at H
                      have c31b0 : (t260 == 0) = true := beq_iff_eq.mpr c31
                      have c31b1 : (t260 != 0) = false := bne_eq_false_iff_eq.mpr c31
                      clear c31
                      replace H := Option.bind_eq_some_iff.mp H
                      obtain ⟨t263, A320, H⟩ := H
                      replace H : (if t263.toList = a0.toList then (some true) else (some false)) = some r := H
                      have A32 := Aside0.mk A320
                      clear A320
                      by_cases c33 : t263.toList = a0.toList
                      · rw [if_pos c33] at H
                        have c33b0 : (t263.toList == a0.toList) = true := beq_iff_eq.mpr c33
                        have c33b1 : (t263.toList != a0.toList) = false := bne_eq_false_iff_eq.mpr c33
                        clear c33
                        obtain rfl := Option.some.inj H
                        go_wp2_with (first | ((with_reducible refine gate_callee (f := 16) rfl ?_); refine goesL_ (some 83) rfl rfl Try.func16 (by kernel_rfl) rfl #[.string a0, .int .i64 4000, .int .i64 4000] rfl (by (try simp only [List.map_toArray, List.map_cons, List.map_nil]); first | done | rfl | (simp only [List.length_drop, List.length_take]; rfl)) ?_; (with_reducible refine (wire_TakeAll.calls kj19 a0 4000 4000 t259 t260 _ A30.out).mono ?_); rintro e w34 ⟨v261, rfl, ho0, hb⟩; refine ⟨_, rfl, ?_⟩; have n0_ := Aside0.mk (Kd.R_lower ho0 (below_size (by repeat (first | (with_reducible first | exact HB.out | apply below_alloc | apply pw_below_drewN | apply below_drew1) | exact HB.out)))); have n1_ := Aside0.mk (below_step (by repeat (first | (with_reducible first | exact HB.out | apply below_alloc | apply pw_below_drewN | apply below_drew1) | exact HB.out)) hb); clear HB; have HO262 := n0_; have HB := n1_; clear n0_ n1_; (try clear hb); (try clear hb2); (try clear hk); (try clear hi); (try clear ho0); obtain ⟨Ao35, co35, eo35⟩ := Kd.R_slice HO262.out; subst eo35) | (go_at_call 23; (with_reducible refine (wire_PutAll.calls kj19 _ _ t259 t263 _ ?side1 ?side2 A32.out).mono ?_); (case side1 => repeat (first | exact (Kd.R_reads' HO262.out).2.2 | (with_reducible refine Kd.C_alloc ?_ _) | (with_reducible refine Kd.C_drewN ?_ _) | (with_reducible refine Kd.C_drew ?_))); (case side2 => exact (Kd.R_reads' HO262.out).2.1); rintro e w36 ⟨rfl, hb⟩; have n0_ := Aside0.mk (Kd.R_below (by (with_reducible repeat (first | apply Kd.R_alloc | apply Kd.R_drewN | apply Kd.R_drew)); exact HO262.out) hb); have n1_ := Aside0.mk (below_step (by repeat (first | (with_reducible first | exact HB.out | apply below_alloc | apply pw_below_drewN | apply below_drew1) | exact HB.out)) hb); clear HO262; clear HB; have HO262 := n0_; have HB := n1_; clear n0_ n1_; (try clear hb); (try clear hb2); (try clear hk); (try clear hi)))
                        go_ret
                        exact ⟨by first | rfl | (simp [errW_none, errW_some] <;> rfl) | (simp [*, errW_none, errW_some] <;> rfl), by repeat (first | (with_reducible first | exact HB.out | apply below_alloc | apply pw_below_drewN | apply below_drew1) | exact HB.out)⟩
                      · rw [if_neg c33] at H
                        have c33b0 : (t263.toList == a0.toList) = false := beq_eq_false_iff_ne.mpr c33
                        have c33b1 : (t263.toList != a0.toList) = true := bne_iff_ne.mpr c33
                        obtain rfl := Option.some.inj H
                        go_wp2_with (first | ((with_reducible refine gate_callee (f := 16) rfl ?_); refine goesL_ (some 83) rfl rfl Try.func16 (by kernel_rfl) rfl #[.string a0, .int .i64 4000, .int .i64 4000] rfl (by (try simp only [List.map_toArray, List.map_cons, List.map_nil]); first | done | rfl | (simp only [List.length_drop, List.length_take]; rfl)) ?_; (with_reducible refine (wire_TakeAll.calls kj19 a0 4000 4000 t259 t260 _ A30.out).mono ?_); rintro e w37 ⟨v261, rfl, ho0, hb⟩; refine ⟨_, rfl, ?_⟩; have n0_ := Aside0.mk (Kd.R_lower ho0 (below_size (by repeat (first | (with_reducible first | exact HB.out | apply below_alloc | apply pw_below_drewN | apply below_drew1) | exact HB.out)))); have n1_ := Aside0.mk (below_step (by repeat (first | (with_reducible first | exact HB.out | apply below_alloc | apply pw_below_drewN | apply below_drew1) | exact HB.out)) hb); clear HB; have HO262 := n0_; have HB := n1_; clear n0_ n1_; (try clear hb); (try clear hb2); (try clear hk); (try clear hi); (try clear ho0); obtain ⟨Ao38, co38, eo38⟩ := Kd.R_slice HO262.out; subst eo38) | (go_at_call 23; (with_reducible refine (wire_PutAll.calls kj19 _ _ t259 t263 _ ?side1 ?side2 A32.out).mono ?_); (case side1 => repeat (first | exact (Kd.R_reads' HO262.out).2.2 | (with_reducible refine Kd.C_alloc ?_ _) | (with_reducible refine Kd.C_drewN ?_ _) | (with_reducible refine Kd.C_drew ?_))); (case side2 => exact (Kd.R_reads' HO262.out).2.1); rintro e w39 ⟨rfl, hb⟩; have n0_ := Aside0.mk (Kd.R_below (by (with_reducible repeat (first | apply Kd.R_alloc | apply Kd.R_drewN | apply Kd.R_drew)); exact HO262.out) hb); have n1_ := Aside0.mk (below_step (by repeat (first | (with_reducible first | exact HB.out | apply below_alloc | apply pw_below_drewN | apply below_drew1) | exact HB.out)) hb); clear HO262; clear HB; have HO262 := n0_; have HB := n1_; clear n0_ n1_; (try clear hb); (try clear hb2); (try clear hk); (try clear hi)))
                        go_ret
                        exact ⟨by first | rfl | (simp [errW_none, errW_some] <;> rfl) | (simp [*, errW_none, errW_some] <;> rfl), by repeat (first | (with_reducible first | exact HB.out | apply below_alloc | apply pw_below_drewN | apply below_drew1) | exact HB.out)⟩
                    · rw [if_neg c31] at H
                      have c31b0 : (t260 == 0) = false := beq_eq_false_iff_ne.mpr c31
                      have c31b1 : (t260 != 0) = true := bne_iff_ne.mpr c31
                      obtain rfl := Option.some.inj H
                      go_wp2_with (first | ((with_reducible refine gate_callee (f := 16) rfl ?_); refine goesL_ (some 83) rfl rfl Try.func16 (by kernel_rfl) rfl #[.string a0, .int .i64 4000, .int .i64 4000] rfl (by (try simp only [List.map_toArray, List.map_cons, List.map_nil]); first | done | rfl | (simp only [List.length_drop, List.length_take]; rfl)) ?_; (with_reducible refine (wire_TakeAll.calls kj19 a0 4000 4000 t259 t260 _ A30.out).mono ?_); rintro e w40 ⟨v261, rfl, ho0, hb⟩; refine ⟨_, rfl, ?_⟩; have n0_ := Aside0.mk (Kd.R_lower ho0 (below_size (by repeat (first | (with_reducible first | exact HB.out | apply below_alloc | apply pw_below_drewN | apply below_drew1) | exact HB.out)))); have n1_ := Aside0.mk (below_step (by repeat (first | (with_reducible first | exact HB.out | apply below_alloc | apply pw_below_drewN | apply below_drew1) | exact HB.out)) hb); clear HB; have HO262 := n0_; have HB := n1_; clear n0_ n1_; (try clear hb); (try clear hb2); (try clear hk); (try clear hi); (try clear ho0); obtain ⟨Ao41, co41, eo41⟩ := Kd.R_slice HO262.out; subst eo41))
                      go_ret
                      exact ⟨by first | rfl | (simp [errW_none, errW_some] <;> rfl) | (simp [*, errW_none, errW_some] <;> rfl), by repeat (first | (with_reducible first | exact HB.out | apply below_alloc | apply pw_below_drewN | apply below_drew1) | exact HB.out)⟩

/-- THE ONE PURE STATEMENT of letterlocklaw2_WireOne: yours. -/
def letterlocklaw2_WireOne.Pure : Prop := ∀ (a0 : ByteArray), a0.size ≤ 140737488351232 → ∃ k, letterlocklaw2_WireOne.f k a0 = some true
theorem letterlocklaw2_WireOne.walk (P : letterlocklaw2_WireOne.Pure) (a0 : ByteArray) (w : World) (w0 : a0.size ≤ 140737488351232) :
    Calls Try.prog 8 #[.string a0] w fun e w' => e = .returned (.bool true) ∧ Below w.heap.size w w' := by
  obtain ⟨k, h⟩ := P a0 w0
  refine (letterlocklaw2_WireOne.calls k a0 true w h).mono ?_
  rintro e w' ⟨rfl, hd⟩
  exact ⟨rfl, hd⟩

end Go.Proofs.Ytmdglodneldekaa.P
