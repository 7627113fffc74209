/- Printed for this claim by wip/myprint.py out of the translation: Lean functions with the answers of the Go functions, and proofs that the Go code comes to them. Lean checks it. -/
import Derived.Test.YtmdglodneldekaaG0
import Derived.Test.YtmdglodneldekaaGLaw2
import Derived.Test.YtmdglodneldekaaGWire
namespace Go.Proofs.Ytmdglodneldekaa.P
open Go.RowKit Go.Proofs.YtmdglodneldekaaW.PrintWords Go.Proofs.YtmdglodneldekaaW.PrintLast Go.Proofs.YtmdglodneldekaaW.PrintMore
attribute [local go_sem] max2_int min2_int max_two min_two max_three min_three max_four min_four   -- for this text's walks alone
set_option linter.unusedVariables false
set_option linter.unusedSimpArgs false

/-! ### letterlocklaw2_WireShort: function 6 -/
mutual
def letterlocklaw2_WireShort.j0 : Nat → ByteArray → Int → Int → Bool → Bool → Option (Bool)
  | 0, _, _, _, _, _ => none
  | k + 1, x0, x1, x2, x7, x22 => if x22 = true then (some x7) else ((wire_PutText.f k x0).bind fun t203 => (if x1 < 0 then (letterlocklaw2_WireShort.j1 k x0 x2 t203 (wrap64 (-(wrap64 (x1 + 1))))) else (letterlocklaw2_WireShort.j1 k x0 x2 t203 x1)))
def letterlocklaw2_WireShort.j1 : Nat → ByteArray → Int → ByteArray → Int → Option (Bool)
  | 0, _, _, _, _ => none
  | k + 1, x0, x2, x8, x9 => (wire_Put.f k (IntKind.u64.wrap ((x0.size : Int)))).bind fun t204 => (if x8.toList = ([] : List UInt8) then (some false) else (if (x8.size : Int) = 0 then (none) else (if 0 ≤ (Int.tmod x9 (x8.size : Int)) then (if (Int.tmod x9 (x8.size : Int)) ≤ (x8.size : Int) then ((wire_TakeText.f k (x8.extract 0 ((Int.tmod x9 (x8.size : Int)) : Int).toNat) x2).bind fun bt205 => (if (Int.tmod x9 (x8.size : Int)) ≥ (t204.size : Int) then (if (x0.size : Int) > (mx x2 0) then (if bt205.2.2 = 10 then (if bt205.1.toList = ([] : List UInt8) then (some (bt205.2.1.toList == ([] : List UInt8))) else (some false)) else (some false)) else (if bt205.2.2 = 2 then (if bt205.1.toList = ([] : List UInt8) then (some (bt205.2.1.toList == ([] : List UInt8))) else (some false)) else (some false))) else (if bt205.2.2 = 2 then (if bt205.1.toList = ([] : List UInt8) then (some (bt205.2.1.toList == ([] : List UInt8))) else (some false)) else (some false)))) else (none)) else (none))))
end
def letterlocklaw2_WireShort.f (k : Nat) (a0 : ByteArray) (a1 : Int) (a2 : Int) : Option (Bool) := (letterlocklaw2_shown.f k).bind fun t202 => (if t202 = true then (letterlocklaw2_WireShort.j0 k a0 a1 a2 t202 (decide ((a0.size : Int) > 1000))) else (letterlocklaw2_WireShort.j0 k a0 a1 a2 t202 true))
theorem letterlocklaw2_WireShort.mono_l : ∀ k, (∀ y0 y1 y2 y3 y4, LeO (letterlocklaw2_WireShort.j0 k y0 y1 y2 y3 y4) (letterlocklaw2_WireShort.j0 (k + 1) y0 y1 y2 y3 y4)) ∧ (∀ y0 y1 y2 y3, LeO (letterlocklaw2_WireShort.j1 k y0 y1 y2 y3) (letterlocklaw2_WireShort.j1 (k + 1) y0 y1 y2 y3))
  | 0 => ⟨fun _ _ _ _ _ r h => by simp [letterlocklaw2_WireShort.j0] at h, fun _ _ _ _ r h => by simp [letterlocklaw2_WireShort.j1] at h⟩
  | k + 1 => by
    obtain ⟨ih0, ih1⟩ := letterlocklaw2_WireShort.mono_l k
    refine ⟨?_, ?_⟩
    · intro y0 y1 y2 y3 y4
      unfold letterlocklaw2_WireShort.j0
      repeat' first
      | (with_reducible exact ih0 _ _ _ _ _)
      | (with_reducible exact ih1 _ _ _ _)
      | (with_reducible exact letterlocklaw2_shown.mono _)
      | (with_reducible exact wire_Put.mono _ _)
      | (with_reducible exact wire_PutText.mono _ _)
      | (with_reducible exact wire_TakeText.mono _ _ _)
      | (with_reducible exact LeO.refl _)
      | (with_reducible exact LeO.none _)
      | (with_reducible refine LeO.ite ?_ ?_)
      | (with_reducible refine LeO.bind ?_ (fun _ => ?_))
      | exact ih0 _ _ _ _ _
      | exact ih1 _ _ _ _
      | exact letterlocklaw2_shown.mono _
      | exact wire_Put.mono _ _
      | exact wire_PutText.mono _ _
      | exact wire_TakeText.mono _ _ _
      | exact LeO.none _
      | refine LeO.ite ?_ ?_
      | refine LeO.bind ?_ (fun _ => ?_)
    · intro y0 y1 y2 y3
      unfold letterlocklaw2_WireShort.j1
      repeat' first
      | (with_reducible exact ih0 _ _ _ _ _)
      | (with_reducible exact ih1 _ _ _ _)
      | (with_reducible exact letterlocklaw2_shown.mono _)
      | (with_reducible exact wire_Put.mono _ _)
      | (with_reducible exact wire_PutText.mono _ _)
      | (with_reducible exact wire_TakeText.mono _ _ _)
      | (with_reducible exact LeO.refl _)
      | (with_reducible exact LeO.none _)
      | (with_reducible refine LeO.ite ?_ ?_)
      | (with_reducible refine LeO.bind ?_ (fun _ => ?_))
      | exact ih0 _ _ _ _ _
      | exact ih1 _ _ _ _
      | exact letterlocklaw2_shown.mono _
      | exact wire_Put.mono _ _
      | exact wire_PutText.mono _ _
      | exact wire_TakeText.mono _ _ _
      | exact LeO.none _
      | refine LeO.ite ?_ ?_
      | refine LeO.bind ?_ (fun _ => ?_)
theorem letterlocklaw2_WireShort.mono : ∀ a0 a1 a2 k, LeO (letterlocklaw2_WireShort.f k a0 a1 a2) (letterlocklaw2_WireShort.f (k + 1) a0 a1 a2) := by
  intro a0 a1 a2 k
  obtain ⟨ih0, ih1⟩ := letterlocklaw2_WireShort.mono_l k
  unfold letterlocklaw2_WireShort.f
  repeat' first
      | (with_reducible exact ih0 _ _ _ _ _)
      | (with_reducible exact ih1 _ _ _ _)
      | (with_reducible exact letterlocklaw2_shown.mono _)
      | (with_reducible exact wire_Put.mono _ _)
      | (with_reducible exact wire_PutText.mono _ _)
      | (with_reducible exact wire_TakeText.mono _ _ _)
      | (with_reducible exact LeO.refl _)
      | (with_reducible exact LeO.none _)
      | (with_reducible refine LeO.ite ?_ ?_)
      | (with_reducible refine LeO.bind ?_ (fun _ => ?_))
      | exact ih0 _ _ _ _ _
      | exact ih1 _ _ _ _
      | exact letterlocklaw2_shown.mono _
      | exact wire_Put.mono _ _
      | exact wire_PutText.mono _ _
      | exact wire_TakeText.mono _ _ _
      | exact LeO.none _
      | refine LeO.ite ?_ ?_
      | refine LeO.bind ?_ (fun _ => ?_)
set_option maxHeartbeats 8000000 in
set_option maxRecDepth 100000 in
theorem letterlocklaw2_WireShort.calls (k : Nat) (a0 : ByteArray) (a1 : Int) (a2 : Int) (r : Bool) (w : World) (h : letterlocklaw2_WireShort.f k a0 a1 a2 = some r) :
    Calls Try.prog 6 #[.string a0, .int .i64 a1, .int .i64 a2] w fun e w' => e = .returned (.bool r) ∧ Below w.heap.size w w' := by
  have HB := Aside0.mk (Below.refl w.heap.size w)
  have H : ((letterlocklaw2_shown.f k).bind fun t202 => (if t202 = true then (letterlocklaw2_WireShort.j0 k a0 a1 a2 t202 (decide ((a0.size : Int) > 1000))) else (letterlocklaw2_WireShort.j0 k a0 a1 a2 t202 true))) = some r := h
  clear h
  replace H := Option.bind_eq_some_iff.mp H
  obtain ⟨t202, A40, H⟩ := H
  replace H : (if t202 = true then (letterlocklaw2_WireShort.j0 k a0 a1 a2 t202 (decide ((a0.size : Int) > 1000))) else (letterlocklaw2_WireShort.j0 k a0 a1 a2 t202 true)) = some r := H
  have A4 := Aside0.mk A40
  clear A40
  have HC5 := Aside0.mk H
  clear H
  go_enter Try.func6, Try.ntmps6
  go_upto_region 2 with (first | ((with_reducible refine gate_callee (f := 10) rfl ?_); refine goesL_ (some 15) rfl rfl Try.func10 (by kernel_rfl) rfl #[] rfl (by (try simp only [List.map_toArray, List.map_cons, List.map_nil]); first | done | rfl | (simp only [List.length_drop, List.length_take]; rfl)) ?_; (with_reducible refine (letterlocklaw2_shown.calls k  t202 _ A4.out).mono ?_); rintro e w6 ⟨rfl, hb⟩; refine ⟨_, rfl, ?_⟩; have n0_ := Aside0.mk (below_step (by repeat (first | (with_reducible first | exact HB.out | apply below_alloc | apply pw_below_drewN | apply below_drew1) | exact HB.out)) hb); clear HB; have HB := n0_; clear n0_; (try clear hb); (try clear hb2); (try clear hk); (try clear hi)))
  (try simp only [Act.put, List.setIfInBounds_toArray, List.set_cons_zero, List.set_cons_succ])
  go_cut [22] (fun v22 wc => ∃ (kq : Nat) (x22_4 : Bool), v22 = .bool x22_4 ∧ Aside0 (letterlocklaw2_WireShort.j0 kq a0 a1 a2 t202 x22_4 = some r) ∧ Aside0 (kq ≤ k) ∧ Aside0 (Below w.heap.size w wc))
  case first =>
    have H := HC5.out
    clear HC5
    by_cases c7 : t202 = true
    · subst c7
      have H1 : (letterlocklaw2_WireShort.j0 k a0 a1 a2 true (decide ((a0.size : Int) > 1000))) = some r := by rw [if_pos rfl] at H; exact H
      clear H
      have H := H1
      clear H1
      have H' := Aside0.mk H
      clear H
      go_wp2
      go_meet
      case rel => exact ⟨_, (decide ((a0.size : Int) > 1000)), (by first | rfl | (simp; done) | (simp [*]; done) | (simp; exact isEmpty_ne _)), H', ⟨by first | omega | exact Nat.le_refl _⟩, ⟨by repeat (first | (with_reducible first | exact HB.out | apply below_alloc | apply pw_below_drewN | apply below_drew1) | exact HB.out)⟩⟩
    · replace c7 := Bool.eq_false_iff.mpr c7
      subst c7
      have H1 : (letterlocklaw2_WireShort.j0 k a0 a1 a2 false true) = some r := by rw [if_neg (show ¬ (false = true) by decide)] at H; exact H
      clear H
      have H := H1
      clear H1
      have H' := Aside0.mk H
      clear H
      go_wp2
      go_meet
      case rel => exact ⟨_, (true), (by first | rfl | (simp; done) | (simp [*]; done) | (simp; exact isEmpty_ne _)), H', ⟨by first | omega | exact Nat.le_refl _⟩, ⟨by repeat (first | (with_reducible first | exact HB.out | apply below_alloc | apply pw_below_drewN | apply below_drew1) | exact HB.out)⟩⟩
  case rest =>
    clear HC5
    try clear c1
    try clear p2
    try clear c6
    try clear c7
    obtain ⟨kq, x22_4, rfl, HA, HJ4, HB⟩ := hcut
    cases kq with
    | zero => exact absurd HA.out (by simp [letterlocklaw2_WireShort.j0])
    | succ kj4 =>
      have H := HA.out
      clear HA
      simp only [letterlocklaw2_WireShort.j0] at H
      by_cases c8 : x22_4 = true
      · subst c8
        have H1 : (some t202) = some r := by rw [if_pos rfl] at H; exact H
        clear H
        have H := H1
        clear H1
        obtain rfl := Option.some.inj H
        go_wp2
        go_ret
        exact ⟨by first | rfl | (simp [errW_none, errW_some] <;> rfl) | (simp [*, errW_none, errW_some] <;> rfl), by repeat (first | (with_reducible first | exact HB.out | apply below_alloc | apply pw_below_drewN | apply below_drew1) | exact HB.out)⟩
      · replace c8 := Bool.eq_false_iff.mpr c8
        subst c8
        have H1 : ((wire_PutText.f kj4 a0).bind fun t203 => (if a1 < 0 then (letterlocklaw2_WireShort.j1 kj4 a0 a2 t203 (wrap64 (-(wrap64 (a1 + 1))))) else (letterlocklaw2_WireShort.j1 kj4 a0 a2 t203 a1))) = some r := by rw [if_neg (show ¬ (false = true) by decide)] at H; exact H
        clear H
        have H := H1
        clear H1
        replace H := Option.bind_eq_some_iff.mp H
        obtain ⟨t203, A90, H⟩ := H
        replace H : (if a1 < 0 then (letterlocklaw2_WireShort.j1 kj4 a0 a2 t203 (wrap64 (-(wrap64 (a1 + 1))))) else (letterlocklaw2_WireShort.j1 kj4 a0 a2 t203 a1)) = some r := H
        have A9 := Aside0.mk A90
        clear A90
        have HC10 := Aside0.mk H
        clear H
        go_upto_if 28 with (first | ((with_reducible refine gate_callee (f := 20) rfl ?_); refine goesL_ (some 25) rfl rfl Try.func20 (by kernel_rfl) rfl #[.string a0] rfl (by (try simp only [List.map_toArray, List.map_cons, List.map_nil]); first | done | rfl | (simp only [List.length_drop, List.length_take]; rfl)) ?_; (with_reducible refine (wire_PutText.calls kj4 a0 t203 _ A9.out).mono ?_); rintro e w11 ⟨rfl, hb⟩; refine ⟨_, rfl, ?_⟩; have n0_ := Aside0.mk (below_step (by repeat (first | (with_reducible first | exact HB.out | apply below_alloc | apply pw_below_drewN | apply below_drew1) | exact HB.out)) hb); clear HB; have HB := n0_; clear n0_; (try clear hb); (try clear hb2); (try clear hk); (try clear hi)))
        (try simp only [Act.put, List.setIfInBounds_toArray, List.set_cons_zero, List.set_cons_succ])
        go_cut [9] (fun v9 wc => ∃ (kq : Nat) (x9_9 : Int), v9 = .int .i64 x9_9 ∧ Aside0 (letterlocklaw2_WireShort.j1 kq a0 a2 t203 x9_9 = some r) ∧ Aside0 (kq ≤ kj4) ∧ Aside0 (Below w.heap.size w wc))
        case first =>
          have H := HC10.out
          clear HC10
          by_cases c12 : a1 < 0
          · rw [if_pos c12] at H
            have c12b0 : decide (a1 < 0) = true := decide_eq_true c12
            clear c12
            (first | rw [c12b0] | (simp only [i64_w, i32_w]; rw [c12b0]) | skip)
            have H' := Aside0.mk H
            clear H
            go_wp2
            go_meet
            case rel => exact ⟨_, (wrap64 (-(wrap64 (a1 + 1)))), (by first | rfl | (simp; done) | (simp [*]; done) | (simp; exact isEmpty_ne _)), H', ⟨by have := HJ4.out; first | omega | exact Nat.le_refl _⟩, ⟨by repeat (first | (with_reducible first | exact HB.out | apply below_alloc | apply pw_below_drewN | apply below_drew1) | exact HB.out)⟩⟩
          · rw [if_neg c12] at H
            have c12b0 : decide (a1 < 0) = false := decide_eq_false c12
            clear c12
            (first | rw [c12b0] | (simp only [i64_w, i32_w]; rw [c12b0]) | skip)
            have H' := Aside0.mk H
            clear H
            go_wp2
            go_meet
            case rel => exact ⟨_, (a1), (by first | rfl | (simp; done) | (simp [*]; done) | (simp; exact isEmpty_ne _)), H', ⟨by have := HJ4.out; first | omega | exact Nat.le_refl _⟩, ⟨by repeat (first | (with_reducible first | exact HB.out | apply below_alloc | apply pw_below_drewN | apply below_drew1) | exact HB.out)⟩⟩
        case rest =>
          clear HC10
          try clear c1
          try clear c2
          try clear p2
          try clear c6
          try clear p6
          try clear c7
          try clear c8
          try clear c10
          try clear c12
          try clear c12b0
          try clear p2
          obtain ⟨kq, x9_9, rfl, HA, HJ9, HB⟩ := hcut
          cases kq with
          | zero => exact absurd HA.out (by simp [letterlocklaw2_WireShort.j1])
          | succ kj9 =>
            have H := HA.out
            clear HA
            simp only [letterlocklaw2_WireShort.j1] at H
            replace H := Option.bind_eq_some_iff.mp H
            obtain ⟨t204, A130, H⟩ := H
            replace H : (if t203.toList = ([] : List UInt8) then (some false) else (if (t203.size : Int) = 0 then (none) else (if 0 ≤ (Int.tmod x9_9 (t203.size : Int)) then (if (Int.tmod x9_9 (t203.size : Int)) ≤ (t203.size : Int) then ((wire_TakeText.f kj9 (t203.extract 0 ((Int.tmod x9_9 (t203.size : Int)) : Int).toNat) a2).bind fun bt205 => (if (Int.tmod x9_9 (t203.size : Int)) ≥ (t204.size : Int) then (if (a0.size : Int) > (mx a2 0) then (if bt205.2.2 = 10 then (if bt205.1.toList = ([] : List UInt8) then (some (bt205.2.1.toList == ([] : List UInt8))) else (some false)) else (some false)) else (if bt205.2.2 = 2 then (if bt205.1.toList = ([] : List UInt8) then (some (bt205.2.1.toList == ([] : List UInt8))) else (some false)) else (some false))) else (if bt205.2.2 = 2 then (if bt205.1.toList = ([] : List UInt8) then (some (bt205.2.1.toList == ([] : List UInt8))) else (some false)) else (some false)))) else (none)) else (none)))) = some r := H
            have A13 := Aside0.mk A130
            clear A130
            by_cases c14 : t203.toList = ([] : List UInt8)
            · rw [if_pos c14] at H
              have c14b0 : (t203.toList == ([] : List UInt8)) = true := beq_iff_eq.mpr c14
              have c14b1 : (t203.toList != ([] : List UInt8)) = false := bne_eq_false_iff_eq.mpr c14
              clear c14
              obtain rfl := Option.some.inj H
              go_wp2_with (first | ((with_reducible refine gate_callee (f := 11) rfl ?_); refine goesL_ (some 35) rfl rfl Try.func11 (by kernel_rfl) rfl #[.int .u64 (IntKind.u64.wrap ((a0.size : Int)))] rfl (by (try simp only [List.map_toArray, List.map_cons, List.map_nil]); first | done | rfl | (simp only [List.length_drop, List.length_take]; rfl)) ?_; (with_reducible refine (wire_Put.calls kj9 (IntKind.u64.wrap ((a0.size : Int))) t204 _ A13.out).mono ?_); rintro e w15 ⟨rfl, hb⟩; refine ⟨_, rfl, ?_⟩; have n0_ := Aside0.mk (below_step (by repeat (first | (with_reducible first | exact HB.out | apply below_alloc | apply pw_below_drewN | apply below_drew1) | exact HB.out)) hb); clear HB; have HB := n0_; clear n0_; (try clear hb); (try clear hb2); (try clear hk); (try clear hi)))
              go_ret
              exact ⟨by first | rfl | (simp [errW_none, errW_some] <;> rfl) | (simp [*, errW_none, errW_some] <;> rfl), by repeat (first | (with_reducible first | exact HB.out | apply below_alloc | apply pw_below_drewN | apply below_drew1) | exact HB.out)⟩
            · rw [if_neg c14] at H
              have c14b0 : (t203.toList == ([] : List UInt8)) = false := beq_eq_false_iff_ne.mpr c14
              have c14b1 : (t203.toList != ([] : List UInt8)) = true := bne_iff_ne.mpr c14
              by_cases c16 : (t203.size : Int) = 0
              · rw [if_pos c16] at H
                exact absurd H (by simp)
              · rw [if_neg c16] at H
                have c16b0 : ((t203.size : Int) == 0) = false := beq_eq_false_iff_ne.mpr c16
                have c16b1 : ((t203.size : Int) != 0) = true := bne_iff_ne.mpr c16
                obtain ⟨ji17, hji17⟩ : ∃ j_ : Int, (Int.tmod x9_9 (t203.size : Int)) = j_ := ⟨_, rfl⟩
                replace H : (if 0 ≤ (ji17) then (if (ji17) ≤ (t203.size : Int) then ((wire_TakeText.f kj9 (t203.extract 0 ((ji17) : Int).toNat) a2).bind fun bt205 => (if (ji17) ≥ (t204.size : Int) then (if (a0.size : Int) > (mx a2 0) then (if bt205.2.2 = 10 then (if bt205.1.toList = ([] : List UInt8) then (some (bt205.2.1.toList == ([] : List UInt8))) else (some false)) else (some false)) else (if bt205.2.2 = 2 then (if bt205.1.toList = ([] : List UInt8) then (some (bt205.2.1.toList == ([] : List UInt8))) else (some false)) else (some false))) else (if bt205.2.2 = 2 then (if bt205.1.toList = ([] : List UInt8) then (some (bt205.2.1.toList == ([] : List UInt8))) else (some false)) else (some false)))) else (none)) else (none)) = some r := by first | (rw [hji17] at H; exact H) | (simp only [hji17] at H ⊢; exact H)
                (try rw [hji17] at A13)
                by_cases c18 : 0 ≤ (ji17)
                · rw [if_pos c18] at H
                  have c18b0 := eq_true c18
                  have c18b1 : decide (0 ≤ (ji17)) = true := decide_eq_true c18
                  clear c18
                  by_cases c19 : (ji17) ≤ (t203.size : Int)
                  · rw [if_pos c19] at H
                    have c19b0 := eq_true c19
                    have c19b1 : decide ((ji17) ≤ (t203.size : Int)) = true := decide_eq_true c19
                    clear c19
                    replace H := Option.bind_eq_some_iff.mp H
                    obtain ⟨⟨t205, t206, t207⟩, A200, H⟩ := H
                    replace H : (if (ji17) ≥ (t204.size : Int) then (if (a0.size : Int) > (mx a2 0) then (if t207 = 10 then (if t205.toList = ([] : List UInt8) then (some (t206.toList == ([] : List UInt8))) else (some false)) else (some false)) else (if t207 = 2 then (if t205.toList = ([] : List UInt8) then (some (t206.toList == ([] : List UInt8))) else (some false)) else (some false))) else (if t207 = 2 then (if t205.toList = ([] : List UInt8) then (some (t206.toList == ([] : List UInt8))) else (some false)) else (some false))) = some r := H
                    have A20 := Aside0.mk A200
                    clear A200
                    by_cases c21 : (ji17) ≥ (t204.size : Int)
                    · rw [if_pos c21] at H
                      have c21b0 : decide ((t204.size : Int) ≤ (ji17)) = true := decide_eq_true c21
                      clear c21
                      obtain ⟨ji22, hji22⟩ : ∃ j_ : Int, (mx a2 0) = j_ := ⟨_, rfl⟩
                      replace H : (if (a0.size : Int) > (ji22) then (if t207 = 10 then (if t205.toList = ([] : List UInt8) then (some (t206.toList == ([] : List UInt8))) else (some false)) else (some false)) else (if t207 = 2 then (if t205.toList = ([] : List UInt8) then (some (t206.toList == ([] : List UInt8))) else (some false)) else (some false))) = some r := by first | (rw [hji22] at H; exact H) | (simp only [hji22] at H ⊢; exact H)
                      (try rw [hji22] at A13)
                      (try rw [hji22] at A20)
                      have hji22_ : (if a2 < 0 then 0 else a2) = ji22 := hji22
                      by_cases c23 : (a0.size : Int) > (ji22)
                      · rw [if_pos c23] at H
                        have c23b0 : decide ((ji22) < (a0.size : Int)) = true := decide_eq_true c23
                        clear c23
                        by_cases c24 : t207 = 10
                        · rw [if_pos c24] at H
                          have c24b0 : (t207 == 10) = true := beq_iff_eq.mpr c24
                          have c24b1 : (t207 != 10) = false := bne_eq_false_iff_eq.mpr c24
                          clear c24
                          by_cases c25 : t205.toList = ([] : List UInt8)
                          · rw [if_pos c25] at H
                            have c25b0 : (t205.toList == ([] : List UInt8)) = true := beq_iff_eq.mpr c25
                            have c25b1 : (t205.toList != ([] : List UInt8)) = false := bne_eq_false_iff_eq.mpr c25
                            clear c25
                            obtain rfl := Option.some.inj H
                            go_wp2_with (first | ((with_reducible refine gate_callee (f := 11) rfl ?_); refine goesL_ (some 35) rfl rfl Try.func11 (by kernel_rfl) rfl #[.int .u64 (IntKind.u64.wrap ((a0.size : Int)))] rfl (by (try simp only [List.map_toArray, List.map_cons, List.map_nil]); first | done | rfl | (simp only [List.length_drop, List.length_take]; rfl)) ?_; (with_reducible refine (wire_Put.calls kj9 (IntKind.u64.wrap ((a0.size : Int))) t204 _ A13.out).mono ?_); rintro e w26 ⟨rfl, hb⟩; refine ⟨_, rfl, ?_⟩; have n0_ := Aside0.mk (below_step (by repeat (first | (with_reducible first | exact HB.out | apply below_alloc | apply pw_below_drewN | apply below_drew1) | exact HB.out)) hb); clear HB; have HB := n0_; clear n0_; (try clear hb); (try clear hb2); (try clear hk); (try clear hi)) | ((with_reducible refine gate_callee (f := 14) rfl ?_); refine goesL_ (some 48) rfl rfl Try.func14 (by kernel_rfl) rfl #[.string (t203.extract 0 ((ji17) : Int).toNat), .int .i64 a2] rfl (by (try simp only [List.map_toArray, List.map_cons, List.map_nil]); first | done | (simp only [hji17]; rfl) | rfl | (simp only [List.length_drop, List.length_take]; rfl)) ?_; (with_reducible refine (wire_TakeText.calls kj9 (t203.extract 0 ((ji17) : Int).toNat) a2 t205 t206 t207 _ A20.out).mono ?_); rintro e w27 ⟨rfl, hb⟩; refine ⟨_, rfl, ?_⟩; have n0_ := Aside0.mk (below_step (by repeat (first | (with_reducible first | exact HB.out | apply below_alloc | apply pw_below_drewN | apply below_drew1) | exact HB.out)) hb); clear HB; have HB := n0_; clear n0_; (try clear hb); (try clear hb2); (try clear hk); (try clear hi)))
                            go_ret
                            exact ⟨by first | rfl | (simp [errW_none, errW_some] <;> rfl) | (simp only [← hji17, ← hji22]; first | rfl | (simp [errW_none, errW_some] <;> rfl)) | (simp [*, errW_none, errW_some] <;> rfl), by repeat (first | (with_reducible first | exact HB.out | apply below_alloc | apply pw_below_drewN | apply below_drew1) | exact HB.out)⟩
                          · rw [if_neg c25] at H
                            have c25b0 : (t205.toList == ([] : List UInt8)) = false := beq_eq_false_iff_ne.mpr c25
                            have c25b1 : (t205.toList != ([] : List UInt8)) = true := bne_iff_ne.mpr c25
                            obtain rfl := Option.some.inj H
                            go_wp2_with (first | ((with_reducible refine gate_callee (f := 11) rfl ?_); refine goesL_ (some 35) rfl rfl Try.func11 (by kernel_rfl) rfl #[.int .u64 (IntKind.u64.wrap ((a0.size : Int)))] rfl (by (try simp only [List.map_toArray, List.map_cons, List.map_nil]); first | done | rfl | (simp only [List.length_drop, List.length_take]; rfl)) ?_; (with_reducible refine (wire_Put.calls kj9 (IntKind.u64.wrap ((a0.size : Int))) t204 _ A13.out).mono ?_); rintro e w28 ⟨rfl, hb⟩; refine ⟨_, rfl, ?_⟩; have n0_ := Aside0.mk (below_step (by repeat (first | (with_reducible first | exact HB.out | apply below_alloc | apply pw_below_drewN | apply below_drew1) | exact HB.out)) hb); clear HB; have HB := n0_; clear n0_; (try clear hb); (try clear hb2); (try clear hk); (try clear hi)) | ((with_reducible refine gate_callee (f := 14) rfl ?_); refine goesL_ (some 48) rfl rfl Try.func14 (by kernel_rfl) rfl #[.string (t203.extract 0 ((ji17) : Int).toNat), .int .i64 a2] rfl (by (try simp only [List.map_toArray, List.map_cons, List.map_nil]); first | done | (simp only [hji17]; rfl) | rfl | (simp only [List.length_drop, List.length_take]; rfl)) ?_; (with_reducible refine (wire_TakeText.calls kj9 (t203.extract 0 ((ji17) : Int).toNat) a2 t205 t206 t207 _ A20.out).mono ?_); rintro e w29 ⟨rfl, hb⟩; refine ⟨_, rfl, ?_⟩; have n0_ := Aside0.mk (below_step (by repeat (first | (with_reducible first | exact HB.out | apply below_alloc | apply pw_below_drewN | apply below_drew1) | exact HB.out)) hb); clear HB; have HB := n0_; clear n0_; (try clear hb); (try clear hb2); (try clear hk); (try clear hi)))
                            go_ret
                            exact ⟨by first | rfl | (simp [errW_none, errW_some] <;> rfl) | (simp only [← hji17, ← hji22]; first | rfl | (simp [errW_none, errW_some] <;> rfl)) | (simp [*, errW_none, errW_some] <;> rfl), by repeat (first | (with_reducible first | exact HB.out | apply below_alloc | apply pw_below_drewN | apply below_drew1) | exact HB.out)⟩
                        · rw [if_neg c24] at H
                          have c24b0 : (t207 == 10) = false := beq_eq_false_iff_ne.mpr c24
                          have c24b1 : (t207 != 10) = true := bne_iff_ne.mpr c24
                          obtain rfl := Option.some.inj H
                          go_wp2_with (first | ((with_reducible refine gate_callee (f := 11) rfl ?_); refine goesL_ (some 35) rfl rfl Try.func11 (by kernel_rfl) rfl #[.int .u64 (IntKind.u64.wrap ((a0.size : Int)))] rfl (by (try simp only [List.map_toArray, List.map_cons, List.map_nil]); first | done | rfl | (simp only [List.length_drop, List.length_take]; rfl)) ?_; (with_reducible refine (wire_Put.calls kj9 (IntKind.u64.wrap ((a0.size : Int))) t204 _ A13.out).mono ?_); rintro e w30 ⟨rfl, hb⟩; refine ⟨_, rfl, ?_⟩; have n0_ := Aside0.mk (below_step (by repeat (first | (with_reducible first | exact HB.out | apply below_alloc | apply pw_below_drewN | apply below_drew1) | exact HB.out)) hb); clear HB; have HB := n0_; clear n0_; (try clear hb); (try clear hb2); (try clear hk); (try clear hi)) | ((with_reducible refine gate_callee (f := 14) rfl ?_); refine goesL_ (some 48) rfl rfl Try.func14 (by kernel_rfl) rfl #[.string (t203.extract 0 ((ji17) : Int).toNat), .int .i64 a2] rfl (by (try simp only [List.map_toArray, List.map_cons, List.map_nil]); first | done | (simp only [hji17]; rfl) | rfl | (simp only [List.length_drop, List.length_take]; rfl)) ?_; (with_reducible refine (wire_TakeText.calls kj9 (t203.extract 0 ((ji17) : Int).toNat) a2 t205 t206 t207 _ A20.out).mono ?_); rintro e w31 ⟨rfl, hb⟩; refine ⟨_, rfl, ?_⟩; have n0_ := Aside0.mk (below_step (by repeat (first | (with_reducible first | exact HB.out | apply below_alloc | apply pw_below_drewN | apply below_drew1) | exact HB.out)) hb); clear HB; have HB := n0_; clear n0_; (try clear hb); (try clear hb2); (try clear hk); (try clear hi)))
                          go_ret
                          exact ⟨by first | rfl | (simp [errW_none, errW_some] <;> rfl) | (simp only [← hji17, ← hji22]; first | rfl | (simp [errW_none, errW_some] <;> rfl)) | (simp [*, errW_none, errW_some] <;> rfl), by repeat (first | (with_reducible first | exact HB.out | apply below_alloc | apply pw_below_drewN | apply below_drew1) | exact HB.out)⟩
                      · rw [if_neg c23] at H
                        have c23b0 : decide ((ji22) < (a0.size : Int)) = false := decide_eq_false c23
                        clear c23
                        by_cases c32 : t207 = 2
                        · rw [if_pos c32] at H
                          have c32b0 : (t207 == 2) = true := beq_iff_eq.mpr c32
                          have c32b1 : (t207 != 2) = false := bne_eq_false_iff_eq.mpr c32
                          clear c32
                          by_cases c33 : t205.toList = ([] : List UInt8)
                          · rw [if_pos c33] at H
                            have c33b0 : (t205.toList == ([] : List UInt8)) = true := beq_iff_eq.mpr c33
                            have c33b1 : (t205.toList != ([] : List UInt8)) = false := bne_eq_false_iff_eq.mpr c33
                            clear c33
                            obtain rfl := Option.some.inj H
                            go_wp2_with (first | ((with_reducible refine gate_callee (f := 11) rfl ?_); refine goesL_ (some 35) rfl rfl Try.func11 (by kernel_rfl) rfl #[.int .u64 (IntKind.u64.wrap ((a0.size : Int)))] rfl (by (try simp only [List.map_toArray, List.map_cons, List.map_nil]); first | done | rfl | (simp only [List.length_drop, List.length_take]; rfl)) ?_; (with_reducible refine (wire_Put.calls kj9 (IntKind.u64.wrap ((a0.size : Int))) t204 _ A13.out).mono ?_); rintro e w34 ⟨rfl, hb⟩; refine ⟨_, rfl, ?_⟩; have n0_ := Aside0.mk (below_step (by repeat (first | (with_reducible first | exact HB.out | apply below_alloc | apply pw_below_drewN | apply below_drew1) | exact HB.out)) hb); clear HB; have HB := n0_; clear n0_; (try clear hb); (try clear hb2); (try clear hk); (try clear hi)) | ((with_reducible refine gate_callee (f := 14) rfl ?_); refine goesL_ (some 48) rfl rfl Try.func14 (by kernel_rfl) rfl #[.string (t203.extract 0 ((ji17) : Int).toNat), .int .i64 a2] rfl (by (try simp only [List.map_toArray, List.map_cons, List.map_nil]); first | done | (simp only [hji17]; rfl) | rfl | (simp only [List.length_drop, List.length_take]; rfl)) ?_; (with_reducible refine (wire_TakeText.calls kj9 (t203.extract 0 ((ji17) : Int).toNat) a2 t205 t206 t207 _ A20.out).mono ?_); rintro e w35 ⟨rfl, hb⟩; refine ⟨_, rfl, ?_⟩; have n0_ := Aside0.mk (below_step (by repeat (first | (with_reducible first | exact HB.out | apply below_alloc | apply pw_below_drewN | apply below_drew1) | exact HB.out)) hb); clear HB; have HB := n0_; clear n0_; (try clear hb); (try clear hb2); (try clear hk); (try clear hi)))
                            go_ret
                            exact ⟨by first | rfl | (simp [errW_none, errW_some] <;> rfl) | (simp only [← hji17, ← hji22]; first | rfl | (simp [errW_none, errW_some] <;> rfl)) | (simp [*, errW_none, errW_some] <;> rfl), by repeat (first | (with_reducible first | exact HB.out | apply below_alloc | apply pw_below_drewN | apply below_drew1) | exact HB.out)⟩
                          · rw [if_neg c33] at H
                            have c33b0 : (t205.toList == ([] : List UInt8)) = false := beq_eq_false_iff_ne.mpr c33
                            have c33b1 : (t205.toList != ([] : List UInt8)) = true := bne_iff_ne.mpr c33
                            obtain rfl := Option.some.inj H
                            go_wp2_with (first | ((with_reducible refine gate_callee (f := 11) rfl ?_); refine goesL_ (some 35) rfl rfl Try.func11 (by kernel_rfl) rfl #[.int .u64 (IntKind.u64.wrap ((a0.size : Int)))] rfl (by (try simp only [List.map_toArray, List.map_cons, List.map_nil]); first | done | rfl | (simp only [List.length_drop, List.length_take]; rfl)) ?_; (with_reducible refine (wire_Put.calls kj9 (IntKind.u64.wrap ((a0.size : Int))) t204 _ A13.out).mono ?_); rintro e w36 ⟨rfl, hb⟩; refine ⟨_, rfl, ?_⟩; have n0_ := Aside0.mk (below_step (by repeat (first | (with_reducible first | exact HB.out | apply below_alloc | apply pw_below_drewN | apply below_drew1) | exact HB.out)) hb); clear HB; have HB := n0_; clear n0_; (try clear hb); (try clear hb2); (try clear hk); (try clear hi)) | ((with_reducible refine gate_callee (f := 14) rfl ?_); refine goesL_ (some 48) rfl rfl Try.func14 (by kernel_rfl) rfl #[.string (t203.extract 0 ((ji17) : Int).toNat), .int .i64 a2] rfl (by (try simp only [List.map_toArray, List.map_cons, List.map_nil]); first | done | (simp only [hji17]; rfl) | rfl | (simp only [List.length_drop, List.length_take]; rfl)) ?_; (with_reducible refine (wire_TakeText.calls kj9 (t203.extract 0 ((ji17) : Int).toNat) a2 t205 t206 t207 _ A20.out).mono ?_); rintro e w37 ⟨rfl, hb⟩; refine ⟨_, rfl, ?_⟩; have n0_ := Aside0.mk (below_step (by repeat (first | (with_reducible first | exact HB.out | apply below_alloc | apply pw_below_drewN | apply below_drew1) | exact HB.out)) hb); clear HB; have HB := n0_; clear n0_; (try clear hb); (try clear hb2); (try clear hk); (try clear hi)))
                            go_ret
                            exact ⟨by first | rfl | (simp [errW_none, errW_some] <;> rfl) | (simp only [← hji17, ← hji22]; first | rfl | (simp [errW_none, errW_some] <;> rfl)) | (simp [*, errW_none, errW_some] <;> rfl), by repeat (first | (with_reducible first | exact HB.out | apply below_alloc | apply pw_below_drewN | apply below_drew1) | exact HB.out)⟩
                        · rw [if_neg c32] at H
                          have c32b0 : (t207 == 2) = false := beq_eq_false_iff_ne.mpr c32
                          have c32b1 : (t207 != 2) = true := bne_iff_ne.mpr c32
                          obtain rfl := Option.some.inj H
                          go_wp2_with (first | ((with_reducible refine gate_callee (f := 11) rfl ?_); refine goesL_ (some 35) rfl rfl Try.func11 (by kernel_rfl) rfl #[.int .u64 (IntKind.u64.wrap ((a0.size : Int)))] rfl (by (try simp only [List.map_toArray, List.map_cons, List.map_nil]); first | done | rfl | (simp only [List.length_drop, List.length_take]; rfl)) ?_; (with_reducible refine (wire_Put.calls kj9 (IntKind.u64.wrap ((a0.size : Int))) t204 _ A13.out).mono ?_); rintro e w38 ⟨rfl, hb⟩; refine ⟨_, rfl, ?_⟩; have n0_ := Aside0.mk (below_step (by repeat (first | (with_reducible first | exact HB.out | apply below_alloc | apply pw_below_drewN | apply below_drew1) | exact HB.out)) hb); clear HB; have HB := n0_; clear n0_; (try clear hb); (try clear hb2); (try clear hk); (try clear hi)) | ((with_reducible refine gate_callee (f := 14) rfl ?_); refine goesL_ (some 48) rfl rfl Try.func14 (by kernel_rfl) rfl #[.string (t203.extract 0 ((ji17) : Int).toNat), .int .i64 a2] rfl (by (try simp only [List.map_toArray, List.map_cons, List.map_nil]); first | done | (simp only [hji17]; rfl) | rfl | (simp only [List.length_drop, List.length_take]; rfl)) ?_; (with_reducible refine (wire_TakeText.calls kj9 (t203.extract 0 ((ji17) : Int).toNat) a2 t205 t206 t207 _ A20.out).mono ?_); rintro e w39 ⟨rfl, hb⟩; refine ⟨_, rfl, ?_⟩; have n0_ := Aside0.mk (below_step (by repeat (first | (with_reducible first | exact HB.out | apply below_alloc | apply pw_below_drewN | apply below_drew1) | exact HB.out)) hb); clear HB; have HB := n0_; clear n0_; (try clear hb); (try clear hb2); (try clear hk); (try clear hi)))
                          go_ret
                          exact ⟨by first | rfl | (simp [errW_none, errW_some] <;> rfl) | (simp only [← hji17, ← hji22]; first | rfl | (simp [errW_none, errW_some] <;> rfl)) | (simp [*, errW_none, errW_some] <;> rfl), by repeat (first | (with_reducible first | exact HB.out | apply below_alloc | apply pw_below_drewN | apply below_drew1) | exact HB.out)⟩
                    · rw [if_neg c21] at H
                      have c21b0 : decide ((t204.size : Int) ≤ (ji17)) = false := decide_eq_false c21
                      clear c21
                      by_cases c40 : t207 = 2
                      · rw [if_pos c40] at H
                        have c40b0 : (t207 == 2) = true := beq_iff_eq.mpr c40
                        have c40b1 : (t207 != 2) = false := bne_eq_false_iff_eq.mpr c40
                        clear c40
                        by_cases c41 : t205.toList = ([] : List UInt8)
                        · rw [if_pos c41] at H
                          have c41b0 : (t205.toList == ([] : List UInt8)) = true := beq_iff_eq.mpr c41
                          have c41b1 : (t205.toList != ([] : List UInt8)) = false := bne_eq_false_iff_eq.mpr c41
                          clear c41
                          obtain rfl := Option.some.inj H
                          go_wp2_with (first | ((with_reducible refine gate_callee (f := 11) rfl ?_); refine goesL_ (some 35) rfl rfl Try.func11 (by kernel_rfl) rfl #[.int .u64 (IntKind.u64.wrap ((a0.size : Int)))] rfl (by (try simp only [List.map_toArray, List.map_cons, List.map_nil]); first | done | rfl | (simp only [List.length_drop, List.length_take]; rfl)) ?_; (with_reducible refine (wire_Put.calls kj9 (IntKind.u64.wrap ((a0.size : Int))) t204 _ A13.out).mono ?_); rintro e w42 ⟨rfl, hb⟩; refine ⟨_, rfl, ?_⟩; have n0_ := Aside0.mk (below_step (by repeat (first | (with_reducible first | exact HB.out | apply below_alloc | apply pw_below_drewN | apply below_drew1) | exact HB.out)) hb); clear HB; have HB := n0_; clear n0_; (try clear hb); (try clear hb2); (try clear hk); (try clear hi)) | ((with_reducible refine gate_callee (f := 14) rfl ?_); refine goesL_ (some 48) rfl rfl Try.func14 (by kernel_rfl) rfl #[.string (t203.extract 0 ((ji17) : Int).toNat), .int .i64 a2] rfl (by (try simp only [List.map_toArray, List.map_cons, List.map_nil]); first | done | (simp only [hji17]; rfl) | rfl | (simp only [List.length_drop, List.length_take]; rfl)) ?_; (with_reducible refine (wire_TakeText.calls kj9 (t203.extract 0 ((ji17) : Int).toNat) a2 t205 t206 t207 _ A20.out).mono ?_); rintro e w43 ⟨rfl, hb⟩; refine ⟨_, rfl, ?_⟩; have n0_ := Aside0.mk (below_step (by repeat (first | (with_reducible first | exact HB.out | apply below_alloc | apply pw_below_drewN | apply below_drew1) | exact HB.out)) hb); clear HB; have HB := n0_; clear n0_; (try clear hb); (try clear hb2); (try clear hk); (try clear hi)))
                          go_ret
                          exact ⟨by first | rfl | (simp [errW_none, errW_some] <;> rfl) | (simp only [← hji17]; first | rfl | (simp [errW_none, errW_some] <;> rfl)) | (simp [*, errW_none, errW_some] <;> rfl), by repeat (first | (with_reducible first | exact HB.out | apply below_alloc | apply pw_below_drewN | apply below_drew1) | exact HB.out)⟩
                        · rw [if_neg c41] at H
                          have c41b0 : (t205.toList == ([] : List UInt8)) = false := beq_eq_false_iff_ne.mpr c41
                          have c41b1 : (t205.toList != ([] : List UInt8)) = true := bne_iff_ne.mpr c41
                          obtain rfl := Option.some.inj H
                          go_wp2_with (first | ((with_reducible refine gate_callee (f := 11) rfl ?_); refine goesL_ (some 35) rfl rfl Try.func11 (by kernel_rfl) rfl #[.int .u64 (IntKind.u64.wrap ((a0.size : Int)))] rfl (by (try simp only [List.map_toArray, List.map_cons, List.map_nil]); first | done | rfl | (simp only [List.length_drop, List.length_take]; rfl)) ?_; (with_reducible refine (wire_Put.calls kj9 (IntKind.u64.wrap ((a0.size : Int))) t204 _ A13.out).mono ?_); rintro e w44 ⟨rfl, hb⟩; refine ⟨_, rfl, ?_⟩; have n0_ := Aside0.mk (below_step (by repeat (first | (with_reducible first | exact HB.out | apply below_alloc | apply pw_below_drewN | apply below_drew1) | exact HB.out)) hb); clear HB; have HB := n0_; clear n0_; (try clear hb); (try clear hb2); (try clear hk); (try clear hi)) | ((with_reducible refine gate_callee (f := 14) rfl ?_); refine goesL_ (some 48) rfl rfl Try.func14 (by kernel_rfl) rfl #[.string (t203.extract 0 ((ji17) : Int).toNat), .int .i64 a2] rfl (by (try simp only [List.map_toArray, List.map_cons, List.map_nil]); first | done | (simp only [hji17]; rfl) | rfl | (simp only [List.length_drop, List.length_take]; rfl)) ?_; (with_reducible refine (wire_TakeText.calls kj9 (t203.extract 0 ((ji17) : Int).toNat) a2 t205 t206 t207 _ A20.out).mono ?_); rintro e w45 ⟨rfl, hb⟩; refine ⟨_, rfl, ?_⟩; have n0_ := Aside0.mk (below_step (by repeat (first | (with_reducible first | exact HB.out | apply below_alloc | apply pw_below_drewN | apply below_drew1) | exact HB.out)) hb); clear HB; have HB := n0_; clear n0_; (try clear hb); (try clear hb2); (try clear hk); (try clear hi)))
                          go_ret
                          exact ⟨by first | rfl | (simp [errW_none, errW_some] <;> rfl) | (simp only [← hji17]; first | rfl | (simp [errW_none, errW_some] <;> rfl)) | (simp [*, errW_none, errW_some] <;> rfl), by repeat (first | (with_reducible first | exact HB.out | apply below_alloc | apply pw_below_drewN | apply below_drew1) | exact HB.out)⟩
                      · rw [if_neg c40] at H
                        have c40b0 : (t207 == 2) = false := beq_eq_false_iff_ne.mpr c40
                        have c40b1 : (t207 != 2) = true := bne_iff_ne.mpr c40
                        obtain rfl := Option.some.inj H
                        go_wp2_with (first | ((with_reducible refine gate_callee (f := 11) rfl ?_); refine goesL_ (some 35) rfl rfl Try.func11 (by kernel_rfl) rfl #[.int .u64 (IntKind.u64.wrap ((a0.size : Int)))] rfl (by (try simp only [List.map_toArray, List.map_cons, List.map_nil]); first | done | rfl | (simp only [List.length_drop, List.length_take]; rfl)) ?_; (with_reducible refine (wire_Put.calls kj9 (IntKind.u64.wrap ((a0.size : Int))) t204 _ A13.out).mono ?_); rintro e w46 ⟨rfl, hb⟩; refine ⟨_, rfl, ?_⟩; have n0_ := Aside0.mk (below_step (by repeat (first | (with_reducible first | exact HB.out | apply below_alloc | apply pw_below_drewN | apply below_drew1) | exact HB.out)) hb); clear HB; have HB := n0_; clear n0_; (try clear hb); (try clear hb2); (try clear hk); (try clear hi)) | ((with_reducible refine gate_callee (f := 14) rfl ?_); refine goesL_ (some 48) rfl rfl Try.func14 (by kernel_rfl) rfl #[.string (t203.extract 0 ((ji17) : Int).toNat), .int .i64 a2] rfl (by (try simp only [List.map_toArray, List.map_cons, List.map_nil]); first | done | (simp only [hji17]; rfl) | rfl | (simp only [List.length_drop, List.length_take]; rfl)) ?_; (with_reducible refine (wire_TakeText.calls kj9 (t203.extract 0 ((ji17) : Int).toNat) a2 t205 t206 t207 _ A20.out).mono ?_); rintro e w47 ⟨rfl, hb⟩; refine ⟨_, rfl, ?_⟩; have n0_ := Aside0.mk (below_step (by repeat (first | (with_reducible first | exact HB.out | apply below_alloc | apply pw_below_drewN | apply below_drew1) | exact HB.out)) hb); clear HB; have HB := n0_; clear n0_; (try clear hb); (try clear hb2); (try clear hk); (try clear hi)))
                        go_ret
                        exact ⟨by first | rfl | (simp [errW_none, errW_some] <;> rfl) | (simp only [← hji17]; first | rfl | (simp [errW_none, errW_some] <;> rfl)) | (simp [*, errW_none, errW_some] <;> rfl), by repeat (first | (with_reducible first | exact HB.out | apply below_alloc | apply pw_below_drewN | apply below_drew1) | exact HB.out)⟩
                  · rw [if_neg c19] at H
                    exact absurd H (by simp)
                · rw [if_neg c18] at H
                  exact absurd H (by simp)

/-- THE ONE PURE STATEMENT of letterlocklaw2_WireShort: yours. -/
def letterlocklaw2_WireShort.Pure : Prop := ∀ (a0 : ByteArray) (a1 : Int) (a2 : Int), a0.size ≤ 140737488351232 → (Lit.int .i64 a1).wf = true → (Lit.int .i64 a2).wf = true → ∃ k, letterlocklaw2_WireShort.f k a0 a1 a2 = some true
theorem letterlocklaw2_WireShort.walk (P : letterlocklaw2_WireShort.Pure) (a0 : ByteArray) (a1 : Int) (a2 : Int) (w : World) (w0 : a0.size ≤ 140737488351232) (w1 : (Lit.int .i64 a1).wf = true) (w2 : (Lit.int .i64 a2).wf = true) :
    Calls Try.prog 6 #[.string a0, .int .i64 a1, .int .i64 a2] w fun e w' => e = .returned (.bool true) ∧ Below w.heap.size w w' := by
  obtain ⟨k, h⟩ := P a0 a1 a2 w0 w1 w2
  refine (letterlocklaw2_WireShort.calls k a0 a1 a2 true w h).mono ?_
  rintro e w' ⟨rfl, hd⟩
  exact ⟨rfl, hd⟩

end Go.Proofs.Ytmdglodneldekaa.P
