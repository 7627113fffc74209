/- Printed for this claim by wip/myprint.py out of the translation: Lean functions with the answers of the Go functions, and proofs that the Go code comes to them. Lean checks it. -/
import Derived.Test.YtmdglodneldekaaG0
import Derived.Test.YtmdglodneldekaaGLaw2
import Derived.Test.YtmdglodneldekaaGWire
namespace Go.Proofs.Ytmdglodneldekaa.P
open Go.RowKit Go.Proofs.YtmdglodneldekaaW.PrintWords Go.Proofs.YtmdglodneldekaaW.PrintLast Go.Proofs.YtmdglodneldekaaW.PrintMore
attribute [local go_sem] max2_int min2_int max_two min_two max_three min_three max_four min_four   -- for this text's walks alone
set_option linter.unusedVariables false
set_option linter.unusedSimpArgs false

/-! ### letterlocklaw2_WireFirst: function 3 -/
def letterlocklaw2_WireFirst.l0 : Nat → Int → Int → ByteArray → ByteArray → Int → Int → Option (Bool)
  | 0, _, _, _, _, _, _ => none
  | k + 1, x0, x1, x6, x7, x8, x9 => if x9 > 0 then (letterlocklaw2_WireFirst.l0 k x0 x1 x6 x7 (wrap64 (x8 + 1)) (IntKind.u64.wrap (Int.tdiv x9 256))) else (if (x6.size : Int) = (wrap64 (1 + x8)) then (if 0 < (x6.size : Int) then (if (wrap64 (bt x6 0)) = x8 then (if x8 > 0 then (if 1 < (x6.size : Int) then (if (bt x6 1) = 0 then (some false) else (if (x7.size : Int) ≥ (x6.size : Int) then (if 0 ≤ (x6.size : Int) then (if (x6.size : Int) ≤ (x7.size : Int) then (some (((x7.extract 0 ((x6.size : Int) : Int).toNat).toList == x6.toList) == (x0 == x1))) else (none)) else (none)) else (some (false == (x0 == x1))))) else (none)) else (if (x7.size : Int) ≥ (x6.size : Int) then (if 0 ≤ (x6.size : Int) then (if (x6.size : Int) ≤ (x7.size : Int) then (some (((x7.extract 0 ((x6.size : Int) : Int).toNat).toList == x6.toList) == (x0 == x1))) else (none)) else (none)) else (some (false == (x0 == x1))))) else (some false)) else (none)) else (some false))
def letterlocklaw2_WireFirst.f (k : Nat) (a0 : Int) (a1 : Int) : Option (Bool) := (letterlocklaw2_shown.f k).bind fun t108 => (if t108 = true then ((wire_Put.f k a0).bind fun t109 => ((wire_Put.f k a1).bind fun t110 => (letterlocklaw2_WireFirst.l0 k a0 a1 t109 t110 0 a0))) else (some false))
theorem letterlocklaw2_WireFirst.mono_l : ∀ k, (∀ y0 y1 y2 y3 y4 y5, LeO (letterlocklaw2_WireFirst.l0 k y0 y1 y2 y3 y4 y5) (letterlocklaw2_WireFirst.l0 (k + 1) y0 y1 y2 y3 y4 y5))
  | 0 => fun _ _ _ _ _ _ r h => by simp [letterlocklaw2_WireFirst.l0] at h
  | k + 1 => by
    have ih0 := letterlocklaw2_WireFirst.mono_l k
    · intro y0 y1 y2 y3 y4 y5
      unfold letterlocklaw2_WireFirst.l0
      repeat' first
      | (with_reducible exact ih0 _ _ _ _ _ _)
      | (with_reducible exact letterlocklaw2_shown.mono _)
      | (with_reducible exact wire_Put.mono _ _)
      | (with_reducible exact LeO.refl _)
      | (with_reducible exact LeO.none _)
      | (with_reducible refine LeO.ite ?_ ?_)
      | (with_reducible refine LeO.bind ?_ (fun _ => ?_))
      | exact ih0 _ _ _ _ _ _
      | exact letterlocklaw2_shown.mono _
      | exact wire_Put.mono _ _
      | exact LeO.none _
      | refine LeO.ite ?_ ?_
      | refine LeO.bind ?_ (fun _ => ?_)
theorem letterlocklaw2_WireFirst.mono : ∀ a0 a1 k, LeO (letterlocklaw2_WireFirst.f k a0 a1) (letterlocklaw2_WireFirst.f (k + 1) a0 a1) := by
  intro a0 a1 k
  have ih0 := letterlocklaw2_WireFirst.mono_l k
  unfold letterlocklaw2_WireFirst.f
  repeat' first
      | (with_reducible exact ih0 _ _ _ _ _ _)
      | (with_reducible exact letterlocklaw2_shown.mono _)
      | (with_reducible exact wire_Put.mono _ _)
      | (with_reducible exact LeO.refl _)
      | (with_reducible exact LeO.none _)
      | (with_reducible refine LeO.ite ?_ ?_)
      | (with_reducible refine LeO.bind ?_ (fun _ => ?_))
      | exact ih0 _ _ _ _ _ _
      | exact letterlocklaw2_shown.mono _
      | exact wire_Put.mono _ _
      | exact LeO.none _
      | refine LeO.ite ?_ ?_
      | refine LeO.bind ?_ (fun _ => ?_)
set_option maxHeartbeats 8000000 in
set_option maxRecDepth 100000 in
theorem letterlocklaw2_WireFirst.calls (k : Nat) (a0 : Int) (a1 : Int) (r : Bool) (w : World) (h : letterlocklaw2_WireFirst.f k a0 a1 = some r) :
    Calls Try.prog 3 #[.int .u64 a0, .int .u64 a1] w fun e w' => e = .returned (.bool r) ∧ Below w.heap.size w w' := by
  have HB := Aside0.mk (Below.refl w.heap.size w)
  have H : ((letterlocklaw2_shown.f k).bind fun t108 => (if t108 = true then ((wire_Put.f k a0).bind fun t109 => ((wire_Put.f k a1).bind fun t110 => (letterlocklaw2_WireFirst.l0 k a0 a1 t109 t110 0 a0))) else (some false))) = some r := h
  clear h
  replace H := Option.bind_eq_some_iff.mp H
  obtain ⟨t108, A30, H⟩ := H
  replace H : (if t108 = true then ((wire_Put.f k a0).bind fun t109 => ((wire_Put.f k a1).bind fun t110 => (letterlocklaw2_WireFirst.l0 k a0 a1 t109 t110 0 a0))) else (some false)) = some r := H
  have A3 := Aside0.mk A30
  clear A30
  by_cases c4 : t108 = true
  · subst c4
    have H1 : ((wire_Put.f k a0).bind fun t109 => ((wire_Put.f k a1).bind fun t110 => (letterlocklaw2_WireFirst.l0 k a0 a1 t109 t110 0 a0))) = some r := by rw [if_pos rfl] at H; exact H
    clear H
    have H := H1
    clear H1
    replace H := Option.bind_eq_some_iff.mp H
    obtain ⟨t109, A50, H⟩ := H
    replace H : ((wire_Put.f k a1).bind fun t110 => (letterlocklaw2_WireFirst.l0 k a0 a1 t109 t110 0 a0)) = some r := H
    have A5 := Aside0.mk A50
    clear A50
    replace H := Option.bind_eq_some_iff.mp H
    obtain ⟨t110, A60, H⟩ := H
    replace H : (letterlocklaw2_WireFirst.l0 k a0 a1 t109 t110 0 a0) = some r := H
    have A6 := Aside0.mk A60
    clear A60
    have H' := Aside0.mk H
    clear H
    go_enter Try.func3, Try.ntmps3
    go_wp2_with (first | ((with_reducible refine gate_callee (f := 10) rfl ?_); refine goesL_ (some 10) rfl rfl Try.func10 (by kernel_rfl) rfl #[] rfl (by (try simp only [List.map_toArray, List.map_cons, List.map_nil]); first | done | rfl | (simp only [List.length_drop, List.length_take]; rfl)) ?_; (with_reducible refine (letterlocklaw2_shown.calls k  true _ A3.out).mono ?_); rintro e w7 ⟨rfl, hb⟩; refine ⟨_, rfl, ?_⟩; have n0_ := Aside0.mk (below_step (by repeat (first | (with_reducible first | exact HB.out | apply below_alloc | apply pw_below_drewN | apply below_drew1) | exact HB.out)) hb); clear HB; have HB := n0_; clear n0_; (try clear hb); (try clear hb2); (try clear hk); (try clear hi)) | ((with_reducible refine gate_callee (f := 11) rfl ?_); refine goesL_ (some 14) rfl rfl Try.func11 (by kernel_rfl) rfl #[.int .u64 a0] rfl (by (try simp only [List.map_toArray, List.map_cons, List.map_nil]); first | done | rfl | (simp only [List.length_drop, List.length_take]; rfl)) ?_; (with_reducible refine (wire_Put.calls k a0 t109 _ A5.out).mono ?_); rintro e w8 ⟨rfl, hb⟩; refine ⟨_, rfl, ?_⟩; have n0_ := Aside0.mk (below_step (by repeat (first | (with_reducible first | exact HB.out | apply below_alloc | apply pw_below_drewN | apply below_drew1) | exact HB.out)) hb); clear HB; have HB := n0_; clear n0_; (try clear hb); (try clear hb2); (try clear hk); (try clear hi)) | ((with_reducible refine gate_callee (f := 11) rfl ?_); refine goesL_ (some 16) rfl rfl Try.func11 (by kernel_rfl) rfl #[.int .u64 a1] rfl (by (try simp only [List.map_toArray, List.map_cons, List.map_nil]); first | done | rfl | (simp only [List.length_drop, List.length_take]; rfl)) ?_; (with_reducible refine (wire_Put.calls k a1 t110 _ A6.out).mono ?_); rintro e w9 ⟨rfl, hb⟩; refine ⟨_, rfl, ?_⟩; have n0_ := Aside0.mk (below_step (by repeat (first | (with_reducible first | exact HB.out | apply below_alloc | apply pw_below_drewN | apply below_drew1) | exact HB.out)) hb); clear HB; have HB := n0_; clear n0_; (try clear hb); (try clear hb2); (try clear hk); (try clear hi)))
    go_loopg [8, 9] k (fun kq v8 v9 w' => ∃ (x8_1 : Int) (x9_1 : Int), v8 = .int .i64 x8_1 ∧ v9 = .int .u64 x9_1 ∧ Aside0 (letterlocklaw2_WireFirst.l0 kq a0 a1 t109 t110 x8_1 x9_1 = some r) ∧ Aside0 (kq ≤ k) ∧ Aside0 (Below w.heap.size w w'))
    case atStart => exact ⟨(0), (a0), (by first | rfl | (simp; done) | (simp [*]; done) | (simp; exact isEmpty_ne _)), (by first | rfl | (simp; done) | (simp [*]; done) | (simp; exact isEmpty_ne _)), H', ⟨Nat.le_refl _⟩, ⟨by repeat (first | (with_reducible first | exact HB.out | apply below_alloc | apply pw_below_drewN | apply below_drew1) | exact HB.out)⟩⟩
    case round =>
      clear H'
      try clear c1
      try clear p2
      try clear c3
      try clear c4
      obtain ⟨x8_1, x9_1, rfl, rfl, HA, HK1, HB⟩ := hrel
      cases gk with
      | zero => exact absurd HA.out (by simp [letterlocklaw2_WireFirst.l0])
      | succ k1 =>
        have H := HA.out
        clear HA
        simp only [letterlocklaw2_WireFirst.l0] at H
        by_cases c10 : x9_1 > 0
        · rw [if_pos c10] at H
          have c10b0 : decide (0 < x9_1) = true := decide_eq_true c10
          clear c10
          have H' := Aside0.mk H
          clear H
          go_wp2
          go_roundg k1
          case measure => have := HK1.out; omega
          case rel => exact ⟨(wrap64 (x8_1 + 1)), (IntKind.u64.wrap (Int.tdiv x9_1 256)), (by first | rfl | (simp; done) | (simp [*]; done) | (simp; exact isEmpty_ne _)), (by first | rfl | (simp; done) | (simp [*]; done) | (simp; exact isEmpty_ne _)), H', ⟨by have := HK1.out; omega⟩, ⟨by repeat (first | (with_reducible first | exact HB.out | apply below_alloc | apply pw_below_drewN | apply below_drew1) | exact HB.out)⟩⟩
        · rw [if_neg c10] at H
          have c10b0 : decide (0 < x9_1) = false := decide_eq_false c10
          clear c10
          by_cases c11 : (t109.size : Int) = (wrap64 (1 + x8_1))
          · rw [if_pos c11] at H
            have c11b0 : ((t109.size : Int) == (wrap64 (1 + x8_1))) = true := beq_iff_eq.mpr c11
            have c11b1 : ((t109.size : Int) != (wrap64 (1 + x8_1))) = false := bne_eq_false_iff_eq.mpr c11
            clear c11
            by_cases c12 : 0 < (t109.size : Int)
            · rw [if_pos c12] at H
              have c12b0 : decide (0 < (t109.size : Int)) = true := decide_eq_true c12
              have c12b1 : decide (0 < t109.size) = true := decide_eq_true (by omega)
              clear c12
              by_cases c14 : (wrap64 (bt t109 0)) = x8_1
              · rw [if_pos c14] at H
                have c14b0 : ((wrap64 (bt t109 0)) == x8_1) = true := beq_iff_eq.mpr c14
                have c14b1 : ((wrap64 (bt t109 0)) != x8_1) = false := bne_eq_false_iff_eq.mpr c14
                clear c14
                by_cases c15 : x8_1 > 0
                · rw [if_pos c15] at H
                  have c15b0 : decide (0 < x8_1) = true := decide_eq_true c15
                  clear c15
                  by_cases c16 : 1 < (t109.size : Int)
                  · rw [if_pos c16] at H
                    have c16b0 : decide (1 < (t109.size : Int)) = true := decide_eq_true c16
                    have c16b1 : decide (1 < t109.size) = true := decide_eq_true (by omega)
                    clear c16
                    by_cases c18 : (bt t109 1) = 0
                    · rw [if_pos c18] at H
                      have c18b0 : ((bt t109 1) == 0) = true := beq_iff_eq.mpr c18
                      have c18b1 : ((bt t109 1) != 0) = false := bne_eq_false_iff_eq.mpr c18
                      clear c18
                      obtain rfl := Option.some.inj H
                      have p13 : 0 ≤ (0 : Int) := (by omega)
                      have q13 : 0 < t109.size := (by have : (0 : Int) < (t109.size : Int) := of_decide_eq_true (by first | (with_reducible assumption) | assumption); omega)
                      have hx13 : ∀ h : 0 < t109.size, ((t109[0]'h).toNat : Int) = bt t109 0 := bt_at t109 0
                      clear p13
                      have qi13 : (0 < (t109.size : Int)) = True := eq_true (of_decide_eq_true (by first | (with_reducible assumption) | assumption))
                      replace q13 := eq_true q13
                      have p17 : 0 ≤ (1 : Int) := (by omega)
                      have q17 : 1 < t109.size := (by have : (1 : Int) < (t109.size : Int) := of_decide_eq_true (by first | (with_reducible assumption) | assumption); omega)
                      have hx17 : ∀ h : 1 < t109.size, ((t109[1]'h).toNat : Int) = bt t109 1 := bt_at t109 1
                      clear p17
                      have qi17 : (1 < (t109.size : Int)) = True := eq_true (of_decide_eq_true (by first | (with_reducible assumption) | assumption))
                      replace q17 := eq_true q17
                      go_wp2
                      go_ret
                      exact ⟨by first | rfl | (simp [errW_none, errW_some] <;> rfl) | (simp [*, errW_none, errW_some] <;> rfl), by repeat (first | (with_reducible first | exact HB.out | apply below_alloc | apply pw_below_drewN | apply below_drew1) | exact HB.out)⟩
                    · rw [if_neg c18] at H
                      have c18b0 : ((bt t109 1) == 0) = false := beq_eq_false_iff_ne.mpr c18
                      have c18b1 : ((bt t109 1) != 0) = true := bne_iff_ne.mpr c18
                      by_cases c19 : (t110.size : Int) ≥ (t109.size : Int)
                      · rw [if_pos c19] at H
                        have c19b0 : decide ((t109.size : Int) ≤ (t110.size : Int)) = true := decide_eq_true c19
                        have c19b1 : decide (t109.size ≤ t110.size) = true := decide_eq_true (Int.ofNat_le.mp c19)
                        clear c19
                        by_cases c20 : 0 ≤ (t109.size : Int)
                        · rw [if_pos c20] at H
                          have c20b0 := eq_true c20
                          have c20b1 : decide (0 ≤ (t109.size : Int)) = true := decide_eq_true c20
                          clear c20
                          by_cases c21 : (t109.size : Int) ≤ (t110.size : Int)
                          · rw [if_pos c21] at H
                            have c21b0 := eq_true c21
                            have c21b1 : decide ((t109.size : Int) ≤ (t110.size : Int)) = true := decide_eq_true c21
                            clear c21
                            obtain rfl := Option.some.inj H
                            have p13 : 0 ≤ (0 : Int) := (by omega)
                            have q13 : 0 < t109.size := (by have : (0 : Int) < (t109.size : Int) := of_decide_eq_true (by first | (with_reducible assumption) | assumption); omega)
                            have hx13 : ∀ h : 0 < t109.size, ((t109[0]'h).toNat : Int) = bt t109 0 := bt_at t109 0
                            clear p13
                            have qi13 : (0 < (t109.size : Int)) = True := eq_true (of_decide_eq_true (by first | (with_reducible assumption) | assumption))
                            replace q13 := eq_true q13
                            have p17 : 0 ≤ (1 : Int) := (by omega)
                            have q17 : 1 < t109.size := (by have : (1 : Int) < (t109.size : Int) := of_decide_eq_true (by first | (with_reducible assumption) | assumption); omega)
                            have hx17 : ∀ h : 1 < t109.size, ((t109[1]'h).toNat : Int) = bt t109 1 := bt_at t109 1
                            clear p17
                            have qi17 : (1 < (t109.size : Int)) = True := eq_true (of_decide_eq_true (by first | (with_reducible assumption) | assumption))
                            replace q17 := eq_true q17
                            go_wp2
                            go_ret
                            exact ⟨by first | rfl | (simp [errW_none, errW_some] <;> rfl) | (simp [*, errW_none, errW_some] <;> rfl), by repeat (first | (with_reducible first | exact HB.out | apply below_alloc | apply pw_below_drewN | apply below_drew1) | exact HB.out)⟩
                          · rw [if_neg c21] at H
                            exact absurd H (by simp)
                        · rw [if_neg c20] at H
                          exact absurd H (by simp)
                      · rw [if_neg c19] at H
                        have c19b0 : decide ((t109.size : Int) ≤ (t110.size : Int)) = false := decide_eq_false c19
                        have c19b1 : decide (t109.size ≤ t110.size) = false := decide_eq_false (fun h => c19 (Int.ofNat_le.mpr h))
                        clear c19
                        obtain rfl := Option.some.inj H
                        have p13 : 0 ≤ (0 : Int) := (by omega)
                        have q13 : 0 < t109.size := (by have : (0 : Int) < (t109.size : Int) := of_decide_eq_true (by first | (with_reducible assumption) | assumption); omega)
                        have hx13 : ∀ h : 0 < t109.size, ((t109[0]'h).toNat : Int) = bt t109 0 := bt_at t109 0
                        clear p13
                        have qi13 : (0 < (t109.size : Int)) = True := eq_true (of_decide_eq_true (by first | (with_reducible assumption) | assumption))
                        replace q13 := eq_true q13
                        have p17 : 0 ≤ (1 : Int) := (by omega)
                        have q17 : 1 < t109.size := (by have : (1 : Int) < (t109.size : Int) := of_decide_eq_true (by first | (with_reducible assumption) | assumption); omega)
                        have hx17 : ∀ h : 1 < t109.size, ((t109[1]'h).toNat : Int) = bt t109 1 := bt_at t109 1
                        clear p17
                        have qi17 : (1 < (t109.size : Int)) = True := eq_true (of_decide_eq_true (by first | (with_reducible assumption) | assumption))
                        replace q17 := eq_true q17
                        go_wp2
                        go_ret
                        exact ⟨by first | rfl | (simp [errW_none, errW_some] <;> rfl) | (simp [*, errW_none, errW_some] <;> rfl), by repeat (first | (with_reducible first | exact HB.out | apply below_alloc | apply pw_below_drewN | apply below_drew1) | exact HB.out)⟩
                  · rw [if_neg c16] at H
                    exact absurd H (by simp)
                · rw [if_neg c15] at H
                  have c15b0 : decide (0 < x8_1) = false := decide_eq_false c15
                  clear c15
                  by_cases c22 : (t110.size : Int) ≥ (t109.size : Int)
                  · rw [if_pos c22] at H
                    have c22b0 : decide ((t109.size : Int) ≤ (t110.size : Int)) = true := decide_eq_true c22
                    have c22b1 : decide (t109.size ≤ t110.size) = true := decide_eq_true (Int.ofNat_le.mp c22)
                    clear c22
                    by_cases c23 : 0 ≤ (t109.size : Int)
                    · rw [if_pos c23] at H
                      have c23b0 := eq_true c23
                      have c23b1 : decide (0 ≤ (t109.size : Int)) = true := decide_eq_true c23
                      clear c23
                      by_cases c24 : (t109.size : Int) ≤ (t110.size : Int)
                      · rw [if_pos c24] at H
                        have c24b0 := eq_true c24
                        have c24b1 : decide ((t109.size : Int) ≤ (t110.size : Int)) = true := decide_eq_true c24
                        clear c24
                        obtain rfl := Option.some.inj H
                        have p13 : 0 ≤ (0 : Int) := (by omega)
                        have q13 : 0 < t109.size := (by have : (0 : Int) < (t109.size : Int) := of_decide_eq_true (by first | (with_reducible assumption) | assumption); omega)
                        have hx13 : ∀ h : 0 < t109.size, ((t109[0]'h).toNat : Int) = bt t109 0 := bt_at t109 0
                        clear p13
                        have qi13 : (0 < (t109.size : Int)) = True := eq_true (of_decide_eq_true (by first | (with_reducible assumption) | assumption))
                        replace q13 := eq_true q13
                        go_wp2
                        go_ret
                        exact ⟨by first | rfl | (simp [errW_none, errW_some] <;> rfl) | (simp [*, errW_none, errW_some] <;> rfl), by repeat (first | (with_reducible first | exact HB.out | apply below_alloc | apply pw_below_drewN | apply below_drew1) | exact HB.out)⟩
                      · rw [if_neg c24] at H
                        exact absurd H (by simp)
                    · rw [if_neg c23] at H
                      exact absurd H (by simp)
                  · rw [if_neg c22] at H
                    have c22b0 : decide ((t109.size : Int) ≤ (t110.size : Int)) = false := decide_eq_false c22
                    have c22b1 : decide (t109.size ≤ t110.size) = false := decide_eq_false (fun h => c22 (Int.ofNat_le.mpr h))
                    clear c22
                    obtain rfl := Option.some.inj H
                    have p13 : 0 ≤ (0 : Int) := (by omega)
                    have q13 : 0 < t109.size := (by have : (0 : Int) < (t109.size : Int) := of_decide_eq_true (by first | (with_reducible assumption) | assumption); omega)
                    have hx13 : ∀ h : 0 < t109.size, ((t109[0]'h).toNat : Int) = bt t109 0 := bt_at t109 0
                    clear p13
                    have qi13 : (0 < (t109.size : Int)) = True := eq_true (of_decide_eq_true (by first | (with_reducible assumption) | assumption))
                    replace q13 := eq_true q13
                    go_wp2
                    go_ret
                    exact ⟨by first | rfl | (simp [errW_none, errW_some] <;> rfl) | (simp [*, errW_none, errW_some] <;> rfl), by repeat (first | (with_reducible first | exact HB.out | apply below_alloc | apply pw_below_drewN | apply below_drew1) | exact HB.out)⟩
              · rw [if_neg c14] at H
                have c14b0 : ((wrap64 (bt t109 0)) == x8_1) = false := beq_eq_false_iff_ne.mpr c14
                have c14b1 : ((wrap64 (bt t109 0)) != x8_1) = true := bne_iff_ne.mpr c14
                obtain rfl := Option.some.inj H
                have p13 : 0 ≤ (0 : Int) := (by omega)
                have q13 : 0 < t109.size := (by have : (0 : Int) < (t109.size : Int) := of_decide_eq_true (by first | (with_reducible assumption) | assumption); omega)
                have hx13 : ∀ h : 0 < t109.size, ((t109[0]'h).toNat : Int) = bt t109 0 := bt_at t109 0
                clear p13
                have qi13 : (0 < (t109.size : Int)) = True := eq_true (of_decide_eq_true (by first | (with_reducible assumption) | assumption))
                replace q13 := eq_true q13
                go_wp2
                go_ret
                exact ⟨by first | rfl | (simp [errW_none, errW_some] <;> rfl) | (simp [*, errW_none, errW_some] <;> rfl), by repeat (first | (with_reducible first | exact HB.out | apply below_alloc | apply pw_below_drewN | apply below_drew1) | exact HB.out)⟩
            · rw [if_neg c12] at H
              exact absurd H (by simp)
          · rw [if_neg c11] at H
            have c11b0 : ((t109.size : Int) == (wrap64 (1 + x8_1))) = false := beq_eq_false_iff_ne.mpr c11
            have c11b1 : ((t109.size : Int) != (wrap64 (1 + x8_1))) = true := bne_iff_ne.mpr c11
            obtain rfl := Option.some.inj H
            go_wp2
            go_ret
            exact ⟨by first | rfl | (simp [errW_none, errW_some] <;> rfl) | (simp [*, errW_none, errW_some] <;> rfl), by repeat (first | (with_reducible first | exact HB.out | apply below_alloc | apply pw_below_drewN | apply below_drew1) | exact HB.out)⟩
  · replace c4 := Bool.eq_false_iff.mpr c4
    subst c4
    have H1 : (some false) = some r := by rw [if_neg (show ¬ (false = true) by decide)] at H; exact H
    clear H
    have H := H1
    clear H1
    obtain rfl := Option.some.inj H
    go_enter Try.func3, Try.ntmps3
    go_wp2_with (first | ((with_reducible refine gate_callee (f := 10) rfl ?_); refine goesL_ (some 10) rfl rfl Try.func10 (by kernel_rfl) rfl #[] rfl (by (try simp only [List.map_toArray, List.map_cons, List.map_nil]); first | done | rfl | (simp only [List.length_drop, List.length_take]; rfl)) ?_; (with_reducible refine (letterlocklaw2_shown.calls k  false _ A3.out).mono ?_); rintro e w25 ⟨rfl, hb⟩; refine ⟨_, rfl, ?_⟩; have n0_ := Aside0.mk (below_step (by repeat (first | (with_reducible first | exact HB.out | apply below_alloc | apply pw_below_drewN | apply below_drew1) | exact HB.out)) hb); clear HB; have HB := n0_; clear n0_; (try clear hb); (try clear hb2); (try clear hk); (try clear hi)))
    go_ret
    exact ⟨by first | rfl | (simp [errW_none, errW_some] <;> rfl) | (simp [*, errW_none, errW_some] <;> rfl), by repeat (first | (with_reducible first | exact HB.out | apply below_alloc | apply pw_below_drewN | apply below_drew1) | exact HB.out)⟩

/-- THE ONE PURE STATEMENT of letterlocklaw2_WireFirst: yours. -/
def letterlocklaw2_WireFirst.Pure : Prop := ∀ (a0 : Int) (a1 : Int), (Lit.int .u64 a0).wf = true → (Lit.int .u64 a1).wf = true → ∃ k, letterlocklaw2_WireFirst.f k a0 a1 = some true
theorem letterlocklaw2_WireFirst.walk (P : letterlocklaw2_WireFirst.Pure) (a0 : Int) (a1 : Int) (w : World) (w0 : (Lit.int .u64 a0).wf = true) (w1 : (Lit.int .u64 a1).wf = true) :
    Calls Try.prog 3 #[.int .u64 a0, .int .u64 a1] w fun e w' => e = .returned (.bool true) ∧ Below w.heap.size w w' := by
  obtain ⟨k, h⟩ := P a0 a1 w0 w1
  refine (letterlocklaw2_WireFirst.calls k a0 a1 true w h).mono ?_
  rintro e w' ⟨rfl, hd⟩
  exact ⟨rfl, hd⟩

end Go.Proofs.Ytmdglodneldekaa.P
