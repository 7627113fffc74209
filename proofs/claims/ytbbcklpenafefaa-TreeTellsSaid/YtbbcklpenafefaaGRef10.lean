/- Printed for this claim by wip/myprint.py out of the translation: Lean functions with the answers of the Go functions, and proofs that the Go code comes to them. Lean checks it. -/
import Derived.Test.YtbbcklpenafefaaG0
import Derived.Test.YtbbcklpenafefaaGRef3
namespace Go.Proofs.Ytbbcklpenafefaa.P
open Go.RowKit Go.Proofs.YtbbcklpenafefaaW.PrintWords Go.Proofs.YtbbcklpenafefaaW.PrintLast Go.Proofs.YtbbcklpenafefaaW.PrintMore
attribute [local go_sem] max2_int min2_int max_two min_two max_three min_three max_four min_four   -- for this text's walks alone
set_option linter.unusedVariables false
set_option linter.unusedSimpArgs false

/-! ### letterlockref10_leaf: function 39 -/
def letterlockref10_leaf.f (k : Nat) (a0 : ByteArray) : Option (Bool) := (letterlockref3_Kind.f k a0).bind fun t292 => (if t292 = 112 then ((letterlockref3_Parts.f k a0).bind fun bt293 => (if 0 < (bt293.1.length : Int) then (if 0 < ((rdOf ByteArray.empty bt293.1 0).size : Int) then (if (bt (rdOf ByteArray.empty bt293.1 0) 0) = 116 then (if 1 < (bt293.1.length : Int) then (if 0 < ((rdOf ByteArray.empty bt293.1 1).size : Int) then (some ((bt (rdOf ByteArray.empty bt293.1 1) 0) == 97)) else (none)) else (none)) else (some false)) else (none)) else (none))) else (some false))
theorem letterlockref10_leaf.mono : ∀ a0 k, LeO (letterlockref10_leaf.f k a0) (letterlockref10_leaf.f (k + 1) a0) := by
  intro a0 k
  unfold letterlockref10_leaf.f
  repeat' first
      | (with_reducible exact letterlockref3_Kind.mono _ _)
      | (with_reducible exact letterlockref3_Parts.mono _ _)
      | (with_reducible exact LeO.refl _)
      | (with_reducible exact LeO.none _)
      | (with_reducible refine LeO.ite ?_ ?_)
      | (with_reducible refine LeO.bind ?_ (fun _ => ?_))
      | exact letterlockref3_Kind.mono _ _
      | exact letterlockref3_Parts.mono _ _
      | exact LeO.none _
      | refine LeO.ite ?_ ?_
      | refine LeO.bind ?_ (fun _ => ?_)
set_option maxHeartbeats 8000000 in
set_option maxRecDepth 100000 in
theorem letterlockref10_leaf.calls (k : Nat) (a0 : ByteArray) (r : Bool) (w : World) (h : letterlockref10_leaf.f k a0 = some r) :
    Calls Try.prog 39 #[.string a0] w fun e w' => e = .returned (.bool r) ∧ Below w.heap.size w w' := by
  have HB := Aside0.mk (Below.refl w.heap.size w)
  have H : ((letterlockref3_Kind.f k a0).bind fun t292 => (if t292 = 112 then ((letterlockref3_Parts.f k a0).bind fun bt293 => (if 0 < (bt293.1.length : Int) then (if 0 < ((rdOf ByteArray.empty bt293.1 0).size : Int) then (if (bt (rdOf ByteArray.empty bt293.1 0) 0) = 116 then (if 1 < (bt293.1.length : Int) then (if 0 < ((rdOf ByteArray.empty bt293.1 1).size : Int) then (some ((bt (rdOf ByteArray.empty bt293.1 1) 0) == 97)) else (none)) else (none)) else (some false)) else (none)) else (none))) else (some false))) = some r := h
  clear h
  replace H := Option.bind_eq_some_iff.mp H
  obtain ⟨t292, A20, H⟩ := H
  replace H : (if t292 = 112 then ((letterlockref3_Parts.f k a0).bind fun bt293 => (if 0 < (bt293.1.length : Int) then (if 0 < ((rdOf ByteArray.empty bt293.1 0).size : Int) then (if (bt (rdOf ByteArray.empty bt293.1 0) 0) = 116 then (if 1 < (bt293.1.length : Int) then (if 0 < ((rdOf ByteArray.empty bt293.1 1).size : Int) then (some ((bt (rdOf ByteArray.empty bt293.1 1) 0) == 97)) else (none)) else (none)) else (some false)) else (none)) else (none))) else (some false)) = some r := H
  have A2 := Aside0.mk A20
  clear A20
  by_cases c3 : t292 = 112
  · rw [if_pos c3] at H
    have c3b0 : (t292 == 112) = true := beq_iff_eq.mpr c3
    have c3b1 : (t292 != 112) = false := bne_eq_false_iff_eq.mpr c3
    clear c3
    replace H := Option.bind_eq_some_iff.mp H
    obtain ⟨⟨t293, t294⟩, A40, H⟩ := H
    replace H : (if 0 < (t293.length : Int) then (if 0 < ((rdOf ByteArray.empty t293 0).size : Int) then (if (bt (rdOf ByteArray.empty t293 0) 0) = 116 then (if 1 < (t293.length : Int) then (if 0 < ((rdOf ByteArray.empty t293 1).size : Int) then (some ((bt (rdOf ByteArray.empty t293 1) 0) == 97)) else (none)) else (none)) else (some false)) else (none)) else (none)) = some r := H
    have A4 := Aside0.mk A40
    clear A40
    by_cases c5 : 0 < (t293.length : Int)
    · rw [if_pos c5] at H
      have c5b0 : decide (0 < (t293.length : Int)) = true := decide_eq_true c5
      have c5b1 : decide (0 < t293.length) = true := decide_eq_true (by omega)
      clear c5
      by_cases c6 : 0 < ((rdOf ByteArray.empty t293 0).size : Int)
      · rw [if_pos c6] at H
        have c6b0 : decide (0 < ((rdOf ByteArray.empty t293 0).size : Int)) = true := decide_eq_true c6
        have c6b1 : decide (0 < (rdOf ByteArray.empty t293 0).size) = true := decide_eq_true (by omega)
        (try (have c6b0n := c6b0; simp only [ByteArray.size_append, ByteArray.size_extract, Nat.min_self, size_lit1, Int.natCast_add, Int.natCast_one] at c6b0n))
        (try (have c6b1n := c6b1; simp only [ByteArray.size_append, ByteArray.size_extract, Nat.min_self, size_lit1, Int.natCast_add, Int.natCast_one] at c6b1n))
        clear c6
        by_cases c8 : (bt (rdOf ByteArray.empty t293 0) 0) = 116
        · rw [if_pos c8] at H
          have c8b0 : ((bt (rdOf ByteArray.empty t293 0) 0) == 116) = true := beq_iff_eq.mpr c8
          have c8b1 : ((bt (rdOf ByteArray.empty t293 0) 0) != 116) = false := bne_eq_false_iff_eq.mpr c8
          clear c8
          by_cases c9 : 1 < (t293.length : Int)
          · rw [if_pos c9] at H
            have c9b0 : decide (1 < (t293.length : Int)) = true := decide_eq_true c9
            have c9b1 : decide (1 < t293.length) = true := decide_eq_true (by omega)
            clear c9
            by_cases c10 : 0 < ((rdOf ByteArray.empty t293 1).size : Int)
            · rw [if_pos c10] at H
              have c10b0 : decide (0 < ((rdOf ByteArray.empty t293 1).size : Int)) = true := decide_eq_true c10
              have c10b1 : decide (0 < (rdOf ByteArray.empty t293 1).size) = true := decide_eq_true (by omega)
              (try (have c10b0n := c10b0; simp only [ByteArray.size_append, ByteArray.size_extract, Nat.min_self, size_lit1, Int.natCast_add, Int.natCast_one] at c10b0n))
              (try (have c10b1n := c10b1; simp only [ByteArray.size_append, ByteArray.size_extract, Nat.min_self, size_lit1, Int.natCast_add, Int.natCast_one] at c10b1n))
              clear c10
              obtain rfl := Option.some.inj H
              go_enter Try.func39, Try.ntmps39
              go_wp2_with (first | ((with_reducible refine gate_callee (f := 58) rfl ?_); refine goesL_ (some 6) rfl rfl Try.func58 (by kernel_rfl) rfl #[.string a0] rfl (by (try simp only [List.map_toArray, List.map_cons, List.map_nil]); first | done | rfl | (simp only [List.length_drop, List.length_take]; rfl)) ?_; (with_reducible refine (letterlockref3_Kind.calls k a0 t292 _ A2.out).mono ?_); rintro e w12 ⟨rfl, hb⟩; refine ⟨_, rfl, ?_⟩; have n0_ := Aside0.mk (below_step (by repeat (first | (with_reducible first | exact HB.out | apply below_alloc | apply pw_below_drewN | apply below_drew1) | exact HB.out)) hb); clear HB; have HB := n0_; clear n0_; (try clear hb); (try clear hb2); (try clear hk); (try clear hi)) | ((with_reducible refine gate_callee (f := 59) rfl ?_); refine goesL_ (some 10) rfl rfl Try.func59 (by kernel_rfl) rfl #[.string a0] rfl (by (try simp only [List.map_toArray, List.map_cons, List.map_nil]); first | done | rfl | (simp only [List.length_drop, List.length_take]; rfl)) ?_; (with_reducible refine (letterlockref3_Parts.calls k a0 t293 t294 _ A4.out).mono ?_); rintro e w13 ⟨v295, rfl, ho0, hb⟩; refine ⟨_, rfl, ?_⟩; have n0_ := Aside0.mk (Kd.R_lower ho0 (below_size (by repeat (first | (with_reducible first | exact HB.out | apply below_alloc | apply pw_below_drewN | apply below_drew1) | exact HB.out)))); have n1_ := Aside0.mk (below_step (by repeat (first | (with_reducible first | exact HB.out | apply below_alloc | apply pw_below_drewN | apply below_drew1) | exact HB.out)) hb); clear HB; have HO296 := n0_; have HB := n1_; clear n0_ n1_; (try clear hb); (try clear hb2); (try clear hk); (try clear hi); (try clear ho0); obtain ⟨Ao14, co14, eo14⟩ := Kd.R_slice HO296.out; subst eo14; have p297 : 0 ≤ (0 : Int) := (by omega); have q297 : 0 < (t293.length : Int) := of_decide_eq_true (by first | (with_reducible assumption) | assumption); obtain ⟨ad297, e297, hx297_0⟩ := Kd.at_string (Kd.R_reads' HO296.out).2.2 0 p297 q297; cases e297; have qi297 : (0 < t293.length) = True := eq_true (by omega); (try rw [show ((0 : Int)).toNat = 0 from rfl] at hx297_0); (try rw [Addr.add_zero'] at hx297_0); replace p297 := eq_true p297; replace q297 := eq_true q297; have p7 : 0 ≤ (0 : Int) := (by omega); have q7 : 0 < (rdOf ByteArray.empty t293 0).size := (by have : (0 : Int) < ((rdOf ByteArray.empty t293 0).size : Int) := of_decide_eq_true (by first | (with_reducible assumption) | assumption); omega); have hx7 : ∀ h : 0 < (rdOf ByteArray.empty t293 0).size, (((rdOf ByteArray.empty t293 0)[0]'h).toNat : Int) = bt (rdOf ByteArray.empty t293 0) 0 := bt_at (rdOf ByteArray.empty t293 0) 0; clear p7; have qi7 : (0 < ((rdOf ByteArray.empty t293 0).size : Int)) = True := eq_true (of_decide_eq_true (by first | (with_reducible assumption) | assumption)); replace q7 := eq_true q7; have p298 : 0 ≤ (1 : Int) := (by omega); have q298 : 1 < (t293.length : Int) := of_decide_eq_true (by first | (with_reducible assumption) | assumption); obtain ⟨ad298, e298, hx298_0⟩ := Kd.at_string (Kd.R_reads' HO296.out).2.2 1 p298 q298; obtain rfl : ad297 = ad298 := (by injection e298); (try simp only [show (1 : Int).toNat = 1 from rfl, Nat.reduceMul, Nat.reduceEqDiff, Go.Addr.add, ↓reduceIte] at hx298_0); have qi298 : (1 < t293.length) = True := eq_true (by omega); (try rw [show ((1 : Int)).toNat = 1 from rfl] at hx298_0); replace p298 := eq_true p298; replace q298 := eq_true q298; have p11 : 0 ≤ (0 : Int) := (by omega); have q11 : 0 < (rdOf ByteArray.empty t293 1).size := (by have : (0 : Int) < ((rdOf ByteArray.empty t293 1).size : Int) := of_decide_eq_true (by first | (with_reducible assumption) | assumption); omega); have hx11 : ∀ h : 0 < (rdOf ByteArray.empty t293 1).size, (((rdOf ByteArray.empty t293 1)[0]'h).toNat : Int) = bt (rdOf ByteArray.empty t293 1) 0 := bt_at (rdOf ByteArray.empty t293 1) 0; clear p11; have qi11 : (0 < ((rdOf ByteArray.empty t293 1).size : Int)) = True := eq_true (of_decide_eq_true (by first | (with_reducible assumption) | assumption)); replace q11 := eq_true q11))
              go_ret
              exact ⟨by first | rfl | (simp [errW_none, errW_some] <;> rfl) | (simp [*, errW_none, errW_some] <;> rfl), by repeat (first | (with_reducible first | exact HB.out | apply below_alloc | apply pw_below_drewN | apply below_drew1) | exact HB.out)⟩
            · rw [if_neg c10] at H
              exact absurd H (by simp)
          · rw [if_neg c9] at H
            exact absurd H (by simp)
        · rw [if_neg c8] at H
          have c8b0 : ((bt (rdOf ByteArray.empty t293 0) 0) == 116) = false := beq_eq_false_iff_ne.mpr c8
          have c8b1 : ((bt (rdOf ByteArray.empty t293 0) 0) != 116) = true := bne_iff_ne.mpr c8
          obtain rfl := Option.some.inj H
          go_enter Try.func39, Try.ntmps39
          go_wp2_with (first | ((with_reducible refine gate_callee (f := 58) rfl ?_); refine goesL_ (some 6) rfl rfl Try.func58 (by kernel_rfl) rfl #[.string a0] rfl (by (try simp only [List.map_toArray, List.map_cons, List.map_nil]); first | done | rfl | (simp only [List.length_drop, List.length_take]; rfl)) ?_; (with_reducible refine (letterlockref3_Kind.calls k a0 t292 _ A2.out).mono ?_); rintro e w15 ⟨rfl, hb⟩; refine ⟨_, rfl, ?_⟩; have n0_ := Aside0.mk (below_step (by repeat (first | (with_reducible first | exact HB.out | apply below_alloc | apply pw_below_drewN | apply below_drew1) | exact HB.out)) hb); clear HB; have HB := n0_; clear n0_; (try clear hb); (try clear hb2); (try clear hk); (try clear hi)) | ((with_reducible refine gate_callee (f := 59) rfl ?_); refine goesL_ (some 10) rfl rfl Try.func59 (by kernel_rfl) rfl #[.string a0] rfl (by (try simp only [List.map_toArray, List.map_cons, List.map_nil]); first | done | rfl | (simp only [List.length_drop, List.length_take]; rfl)) ?_; (with_reducible refine (letterlockref3_Parts.calls k a0 t293 t294 _ A4.out).mono ?_); rintro e w16 ⟨v295, rfl, ho0, hb⟩; refine ⟨_, rfl, ?_⟩; have n0_ := Aside0.mk (Kd.R_lower ho0 (below_size (by repeat (first | (with_reducible first | exact HB.out | apply below_alloc | apply pw_below_drewN | apply below_drew1) | exact HB.out)))); have n1_ := Aside0.mk (below_step (by repeat (first | (with_reducible first | exact HB.out | apply below_alloc | apply pw_below_drewN | apply below_drew1) | exact HB.out)) hb); clear HB; have HO296 := n0_; have HB := n1_; clear n0_ n1_; (try clear hb); (try clear hb2); (try clear hk); (try clear hi); (try clear ho0); obtain ⟨Ao17, co17, eo17⟩ := Kd.R_slice HO296.out; subst eo17; have p297 : 0 ≤ (0 : Int) := (by omega); have q297 : 0 < (t293.length : Int) := of_decide_eq_true (by first | (with_reducible assumption) | assumption); obtain ⟨ad297, e297, hx297_0⟩ := Kd.at_string (Kd.R_reads' HO296.out).2.2 0 p297 q297; cases e297; have qi297 : (0 < t293.length) = True := eq_true (by omega); (try rw [show ((0 : Int)).toNat = 0 from rfl] at hx297_0); (try rw [Addr.add_zero'] at hx297_0); replace p297 := eq_true p297; replace q297 := eq_true q297; have p7 : 0 ≤ (0 : Int) := (by omega); have q7 : 0 < (rdOf ByteArray.empty t293 0).size := (by have : (0 : Int) < ((rdOf ByteArray.empty t293 0).size : Int) := of_decide_eq_true (by first | (with_reducible assumption) | assumption); omega); have hx7 : ∀ h : 0 < (rdOf ByteArray.empty t293 0).size, (((rdOf ByteArray.empty t293 0)[0]'h).toNat : Int) = bt (rdOf ByteArray.empty t293 0) 0 := bt_at (rdOf ByteArray.empty t293 0) 0; clear p7; have qi7 : (0 < ((rdOf ByteArray.empty t293 0).size : Int)) = True := eq_true (of_decide_eq_true (by first | (with_reducible assumption) | assumption)); replace q7 := eq_true q7))
          go_ret
          exact ⟨by first | rfl | (simp [errW_none, errW_some] <;> rfl) | (simp [*, errW_none, errW_some] <;> rfl), by repeat (first | (with_reducible first | exact HB.out | apply below_alloc | apply pw_below_drewN | apply below_drew1) | exact HB.out)⟩
      · rw [if_neg c6] at H
        exact absurd H (by simp)
    · rw [if_neg c5] at H
      exact absurd H (by simp)
  · rw [if_neg c3] at H
    have c3b0 : (t292 == 112) = false := beq_eq_false_iff_ne.mpr c3
    have c3b1 : (t292 != 112) = true := bne_iff_ne.mpr c3
    obtain rfl := Option.some.inj H
    go_enter Try.func39, Try.ntmps39
    go_wp2_with (first | ((with_reducible refine gate_callee (f := 58) rfl ?_); refine goesL_ (some 6) rfl rfl Try.func58 (by kernel_rfl) rfl #[.string a0] rfl (by (try simp only [List.map_toArray, List.map_cons, List.map_nil]); first | done | rfl | (simp only [List.length_drop, List.length_take]; rfl)) ?_; (with_reducible refine (letterlockref3_Kind.calls k a0 t292 _ A2.out).mono ?_); rintro e w18 ⟨rfl, hb⟩; refine ⟨_, rfl, ?_⟩; have n0_ := Aside0.mk (below_step (by repeat (first | (with_reducible first | exact HB.out | apply below_alloc | apply pw_below_drewN | apply below_drew1) | exact HB.out)) hb); clear HB; have HB := n0_; clear n0_; (try clear hb); (try clear hb2); (try clear hk); (try clear hi)))
    go_ret
    exact ⟨by first | rfl | (simp [errW_none, errW_some] <;> rfl) | (simp [*, errW_none, errW_some] <;> rfl), by repeat (first | (with_reducible first | exact HB.out | apply below_alloc | apply pw_below_drewN | apply below_drew1) | exact HB.out)⟩

/-! ### letterlockref10_first: function 61 -/
def letterlockref10_first.l0 : Nat → Int → Int → Option (Int)
  | 0, _, _ => none
  | k + 1, x0, x3 => if (wrap64 (2 * x3)) < x0 then (letterlockref10_first.l0 k x0 (wrap64 (2 * x3))) else (some x3)
def letterlockref10_first.f (k : Nat) (a0 : Int) : Option (Int) := letterlockref10_first.l0 k a0 1
theorem letterlockref10_first.mono_l : ∀ k, (∀ y0 y1, LeO (letterlockref10_first.l0 k y0 y1) (letterlockref10_first.l0 (k + 1) y0 y1))
  | 0 => fun _ _ r h => by simp [letterlockref10_first.l0] at h
  | k + 1 => by
    have ih0 := letterlockref10_first.mono_l k
    · intro y0 y1
      unfold letterlockref10_first.l0
      repeat' first
      | (with_reducible exact ih0 _ _)
      | (with_reducible exact LeO.refl _)
      | (with_reducible exact LeO.none _)
      | (with_reducible refine LeO.ite ?_ ?_)
      | (with_reducible refine LeO.bind ?_ (fun _ => ?_))
      | exact ih0 _ _
      | exact LeO.none _
      | refine LeO.ite ?_ ?_
      | refine LeO.bind ?_ (fun _ => ?_)
theorem letterlockref10_first.mono : ∀ a0 k, LeO (letterlockref10_first.f k a0) (letterlockref10_first.f (k + 1) a0) := by
  intro a0 k
  have ih0 := letterlockref10_first.mono_l k
  unfold letterlockref10_first.f
  repeat' first
      | (with_reducible exact ih0 _ _)
      | (with_reducible exact LeO.refl _)
      | (with_reducible exact LeO.none _)
      | (with_reducible refine LeO.ite ?_ ?_)
      | (with_reducible refine LeO.bind ?_ (fun _ => ?_))
      | exact ih0 _ _
      | exact LeO.none _
      | refine LeO.ite ?_ ?_
      | refine LeO.bind ?_ (fun _ => ?_)
set_option maxHeartbeats 8000000 in
set_option maxRecDepth 100000 in
theorem letterlockref10_first.calls (k : Nat) (a0 : Int) (r : Int) (w : World) (h : letterlockref10_first.f k a0 = some r) :
    Calls Try.prog 61 #[.int .i64 a0] w fun e w' => e = .returned (.int .i64 r) ∧ Drawn0 w w' := by
  have H : (letterlockref10_first.l0 k a0 1) = some r := h
  clear h
  have H' := Aside0.mk H
  clear H
  go_enter Try.func61, Try.ntmps61
  go_wp2
  go_loopg [3] k (fun kq v3 w' => ∃ (x3_1 : Int), v3 = .int .i64 x3_1 ∧ Aside0 (letterlockref10_first.l0 kq a0 x3_1 = some r) ∧ Aside0 (kq ≤ k) ∧ Drawn0 w w')
  case atStart => exact ⟨(1), (by first | rfl | (simp; done) | (simp [*]; done) | (simp; exact isEmpty_ne _)), H', ⟨Nat.le_refl _⟩, by repeat (first | exact Drawn0.refl _ | apply Drawn0.step)⟩
  case round =>
    clear H'
    obtain ⟨x3_1, rfl, HA, HK1, ⟨m1, rfl⟩⟩ := hrel
    cases gk with
    | zero => exact absurd HA.out (by simp [letterlockref10_first.l0])
    | succ k1 =>
      have H := HA.out
      clear HA
      simp only [letterlockref10_first.l0] at H
      by_cases c2 : (wrap64 (2 * x3_1)) < a0
      · rw [if_pos c2] at H
        have c2b0 : decide ((wrap64 (2 * x3_1)) < a0) = true := decide_eq_true c2
        clear c2
        have H' := Aside0.mk H
        clear H
        go_wp2
        go_roundg k1
        case measure => have := HK1.out; omega
        case rel => exact ⟨(wrap64 (2 * x3_1)), (by first | rfl | (simp; done) | (simp [*]; done) | (simp; exact isEmpty_ne _)), H', ⟨by have := HK1.out; omega⟩, by repeat (first | exact Drawn0.refl _ | apply Drawn0.step)⟩
      · rw [if_neg c2] at H
        have c2b0 : decide ((wrap64 (2 * x3_1)) < a0) = false := decide_eq_false c2
        clear c2
        obtain rfl := Option.some.inj H
        go_wp2
        go_ret
        exact ⟨by first | rfl | (simp; done) | (simp [*]; done), by repeat (first | exact Drawn0.refl _ | apply Drawn0.step)⟩

/-! ### letterlockref10_over: function 62 -/
def letterlockref10_over.f (k : Nat) (a0 : ByteArray) (a1 : ByteArray) : Option (ByteArray × Int) := (letterlockref3_OfPair.f k a0 a1).bind fun bt304 => (if bt304.2 = 0 then ((letterlockref3_OfHash.f k bt304.1).bind fun bt306 => (some (bt306.1, bt306.2))) else (some ((⟨#[]⟩ : ByteArray), bt304.2)))
theorem letterlockref10_over.mono : ∀ a0 a1 k, LeO (letterlockref10_over.f k a0 a1) (letterlockref10_over.f (k + 1) a0 a1) := by
  intro a0 a1 k
  unfold letterlockref10_over.f
  repeat' first
      | (with_reducible exact letterlockref3_OfHash.mono _ _)
      | (with_reducible exact letterlockref3_OfPair.mono _ _ _)
      | (with_reducible exact LeO.refl _)
      | (with_reducible exact LeO.none _)
      | (with_reducible refine LeO.ite ?_ ?_)
      | (with_reducible refine LeO.bind ?_ (fun _ => ?_))
      | exact letterlockref3_OfHash.mono _ _
      | exact letterlockref3_OfPair.mono _ _ _
      | exact LeO.none _
      | refine LeO.ite ?_ ?_
      | refine LeO.bind ?_ (fun _ => ?_)
set_option maxHeartbeats 8000000 in
set_option maxRecDepth 100000 in
theorem letterlockref10_over.calls (k : Nat) (a0 : ByteArray) (a1 : ByteArray) (r1 : ByteArray) (r2 : Int) (w : World) (h : letterlockref10_over.f k a0 a1 = some (r1, r2)) :
    Calls Try.prog 62 #[.string a0, .string a1] w fun e w' => e = .returned (.tuple #[.string r1, .int .i64 r2]) ∧ Below w.heap.size w w' := by
  have HB := Aside0.mk (Below.refl w.heap.size w)
  have H : ((letterlockref3_OfPair.f k a0 a1).bind fun bt304 => (if bt304.2 = 0 then ((letterlockref3_OfHash.f k bt304.1).bind fun bt306 => (some (bt306.1, bt306.2))) else (some ((⟨#[]⟩ : ByteArray), bt304.2)))) = some (r1, r2) := h
  clear h
  replace H := Option.bind_eq_some_iff.mp H
  obtain ⟨⟨t304, t305⟩, A30, H⟩ := H
  replace H : (if t305 = 0 then ((letterlockref3_OfHash.f k t304).bind fun bt306 => (some (bt306.1, bt306.2))) else (some ((⟨#[]⟩ : ByteArray), t305))) = some (r1, r2) := H
  have A3 := Aside0.mk A30
  clear A30
  by_cases c4 : t305 = 0
  · rw [if_pos c4] at H
    have c4b0 : (t305 == 0) = true := beq_iff_eq.mpr c4
    have c4b1 : (t305 != 0) = false := bne_eq_false_iff_eq.mpr c4
    clear c4
    replace H := Option.bind_eq_some_iff.mp H
    obtain ⟨⟨t306, t307⟩, A50, H⟩ := H
    replace H : (some (t306, t307)) = some (r1, r2) := H
    have A5 := Aside0.mk A50
    clear A50
    simp only [Option.some.injEq, Prod.mk.injEq] at H
    obtain ⟨rfl, rfl⟩ := H
    go_enter Try.func62, Try.ntmps62
    go_wp2_with (first | ((with_reducible refine gate_callee (f := 37) rfl ?_); refine goesL_ (some 11) rfl rfl Try.func37 (by kernel_rfl) rfl #[.string a0, .string a1] rfl (by (try simp only [List.map_toArray, List.map_cons, List.map_nil]); first | done | rfl | (simp only [List.length_drop, List.length_take]; rfl)) ?_; (with_reducible refine (letterlockref3_OfPair.calls k a0 a1 t304 t305 _ A3.out).mono ?_); rintro e w6 ⟨rfl, hb⟩; refine ⟨_, rfl, ?_⟩; have n0_ := Aside0.mk (below_step (by repeat (first | (with_reducible first | exact HB.out | apply below_alloc | apply pw_below_drewN | apply below_drew1) | exact HB.out)) hb); clear HB; have HB := n0_; clear n0_; (try clear hb); (try clear hb2); (try clear hk); (try clear hi)) | ((with_reducible refine gate_callee (f := 60) rfl ?_); refine goesL_ (some 18) rfl rfl Try.func60 (by kernel_rfl) rfl #[.string t304] rfl (by (try simp only [List.map_toArray, List.map_cons, List.map_nil]); first | done | rfl | (simp only [List.length_drop, List.length_take]; rfl)) ?_; (with_reducible refine (letterlockref3_OfHash.calls k t304 t306 t307 _ A5.out).mono ?_); rintro e w7 ⟨rfl, hb⟩; refine ⟨_, rfl, ?_⟩; have n0_ := Aside0.mk (below_step (by repeat (first | (with_reducible first | exact HB.out | apply below_alloc | apply pw_below_drewN | apply below_drew1) | exact HB.out)) hb); clear HB; have HB := n0_; clear n0_; (try clear hb); (try clear hb2); (try clear hk); (try clear hi)))
    go_ret2
    exact ⟨by first | rfl | (simp [errW_none, errW_some] <;> rfl) | (simp [*, errW_none, errW_some] <;> rfl), by repeat (first | (with_reducible first | exact HB.out | apply below_alloc | apply pw_below_drewN | apply below_drew1) | exact HB.out)⟩
  · rw [if_neg c4] at H
    have c4b0 : (t305 == 0) = false := beq_eq_false_iff_ne.mpr c4
    have c4b1 : (t305 != 0) = true := bne_iff_ne.mpr c4
    simp only [Option.some.injEq, Prod.mk.injEq] at H
    obtain ⟨rfl, rfl⟩ := H
    go_enter Try.func62, Try.ntmps62
    go_wp2_with (first | ((with_reducible refine gate_callee (f := 37) rfl ?_); refine goesL_ (some 11) rfl rfl Try.func37 (by kernel_rfl) rfl #[.string a0, .string a1] rfl (by (try simp only [List.map_toArray, List.map_cons, List.map_nil]); first | done | rfl | (simp only [List.length_drop, List.length_take]; rfl)) ?_; (with_reducible refine (letterlockref3_OfPair.calls k a0 a1 t304 t305 _ A3.out).mono ?_); rintro e w8 ⟨rfl, hb⟩; refine ⟨_, rfl, ?_⟩; have n0_ := Aside0.mk (below_step (by repeat (first | (with_reducible first | exact HB.out | apply below_alloc | apply pw_below_drewN | apply below_drew1) | exact HB.out)) hb); clear HB; have HB := n0_; clear n0_; (try clear hb); (try clear hb2); (try clear hk); (try clear hi)))
    go_ret2
    exact ⟨by first | rfl | (simp [errW_none, errW_some] <;> rfl) | (simp [*, errW_none, errW_some] <;> rfl), by repeat (first | (with_reducible first | exact HB.out | apply below_alloc | apply pw_below_drewN | apply below_drew1) | exact HB.out)⟩

/-! ### letterlockref10_tree: function 40 -/
def letterlockref10_tree.f : Nat → List ByteArray → Option (ByteArray × Int)
  | 0, _ => none
  | k + 1, l0 => if (l0.length : Int) = 1 then (if 0 < (l0.length : Int) then ((letterlockref3_OfHash.f k (rdOf ByteArray.empty l0 0)).bind fun bt309 => (some (bt309.1, bt309.2))) else (none)) else ((letterlockref10_first.f k (l0.length : Int)).bind fun t311 => (if 0 ≤ t311 then (if t311 ≤ (l0.length : Int) then ((letterlockref10_tree.f k (l0.take (t311 : Int).toNat)).bind fun bt313 => (if bt313.2 = 0 then ((letterlockref10_tree.f k (l0.drop (t311 : Int).toNat)).bind fun bt316 => (if bt316.2 = 0 then ((letterlockref10_over.f k bt313.1 bt316.1).bind fun bt318 => (some (bt318.1, bt318.2))) else (some ((⟨#[]⟩ : ByteArray), bt316.2)))) else (some ((⟨#[]⟩ : ByteArray), bt313.2)))) else (none)) else (none)))
theorem letterlockref10_tree.mono_l : ∀ k, (∀ y0, LeO (letterlockref10_tree.f k y0) (letterlockref10_tree.f (k + 1) y0))
  | 0 => fun _ r h => by simp [letterlockref10_tree.f] at h
  | k + 1 => by
    have ih0 := letterlockref10_tree.mono_l k
    · intro y0
      unfold letterlockref10_tree.f
      repeat' first
      | (with_reducible exact ih0 _)
      | (with_reducible exact letterlockref10_first.mono _ _)
      | (with_reducible exact letterlockref10_over.mono _ _ _)
      | (with_reducible exact letterlockref3_OfHash.mono _ _)
      | (with_reducible exact LeO.refl _)
      | (with_reducible exact LeO.none _)
      | (with_reducible refine LeO.ite ?_ ?_)
      | (with_reducible refine LeO.bind ?_ (fun _ => ?_))
      | exact ih0 _
      | exact letterlockref10_first.mono _ _
      | exact letterlockref10_over.mono _ _ _
      | exact letterlockref3_OfHash.mono _ _
      | exact LeO.none _
      | refine LeO.ite ?_ ?_
      | refine LeO.bind ?_ (fun _ => ?_)
theorem letterlockref10_tree.mono : ∀ a0 k, LeO (letterlockref10_tree.f k a0) (letterlockref10_tree.f (k + 1) a0) := by
  intro a0 k
  have ih0 := letterlockref10_tree.mono_l k
  exact ih0 a0
set_option maxHeartbeats 8000000 in
set_option maxRecDepth 100000 in
theorem letterlockref10_tree.calls (k : Nat) : ∀ (A0 : Option Addr) (c0 : Nat) (l0 : List ByteArray) (r1 : ByteArray) (r2 : Int) (w : World) (hr0 : Kd.C Kd.string w A0 l0.length l0) (hc0 : l0.length ≤ c0) (h : letterlockref10_tree.f k l0 = some (r1, r2)),
    Calls Try.prog 40 #[.slice A0 l0.length c0] w fun e w' => e = .returned (.tuple #[.string r1, .int .i64 r2]) ∧ Below w.heap.size w w' := by
  induction k using Nat.strongRecOn with
  | _ k ih =>
  intro A0 c0 l0 r1 r2 w hr0 hc0 h
  cases k with
  | zero => exact absurd h (by simp [letterlockref10_tree.f])
  | succ k =>
  simp only [letterlockref10_tree.f] at h
  have HR0 := Aside0.mk hr0
  have HC0 := Aside0.mk hc0
  clear hr0 hc0
  have HB := Aside0.mk (Below.refl w.heap.size w)
  have H : (if (l0.length : Int) = 1 then (if 0 < (l0.length : Int) then ((letterlockref3_OfHash.f k (rdOf ByteArray.empty l0 0)).bind fun bt309 => (some (bt309.1, bt309.2))) else (none)) else ((letterlockref10_first.f k (l0.length : Int)).bind fun t311 => (if 0 ≤ t311 then (if t311 ≤ (l0.length : Int) then ((letterlockref10_tree.f k (l0.take (t311 : Int).toNat)).bind fun bt313 => (if bt313.2 = 0 then ((letterlockref10_tree.f k (l0.drop (t311 : Int).toNat)).bind fun bt316 => (if bt316.2 = 0 then ((letterlockref10_over.f k bt313.1 bt316.1).bind fun bt318 => (some (bt318.1, bt318.2))) else (some ((⟨#[]⟩ : ByteArray), bt316.2)))) else (some ((⟨#[]⟩ : ByteArray), bt313.2)))) else (none)) else (none)))) = some (r1, r2) := h
  clear h
  by_cases c2 : (l0.length : Int) = 1
  · rw [if_pos c2] at H
    have c2b0 : ((l0.length : Int) == 1) = true := beq_iff_eq.mpr c2
    have c2b1 : ((l0.length : Int) != 1) = false := bne_eq_false_iff_eq.mpr c2
    clear c2
    by_cases c3 : 0 < (l0.length : Int)
    · rw [if_pos c3] at H
      have c3b0 : decide (0 < (l0.length : Int)) = true := decide_eq_true c3
      have c3b1 : decide (0 < l0.length) = true := decide_eq_true (by omega)
      clear c3
      replace H := Option.bind_eq_some_iff.mp H
      obtain ⟨⟨t309, t310⟩, A40, H⟩ := H
      replace H : (some (t309, t310)) = some (r1, r2) := H
      have A4 := Aside0.mk A40
      clear A40
      simp only [Option.some.injEq, Prod.mk.injEq] at H
      obtain ⟨rfl, rfl⟩ := H
      have p308 : 0 ≤ (0 : Int) := (by omega)
      have q308 : 0 < (l0.length : Int) := of_decide_eq_true (by first | (with_reducible assumption) | assumption)
      obtain ⟨ad308, e308, hx308_0⟩ := Kd.at_string HR0.out 0 p308 q308
      cases e308
      have qi308 : (0 < l0.length) = True := eq_true (by omega)
      (try rw [show ((0 : Int)).toNat = 0 from rfl] at hx308_0)
      (try rw [Addr.add_zero'] at hx308_0)
      replace p308 := eq_true p308
      replace q308 := eq_true q308
      go_enter Try.func40, Try.ntmps40
      go_wp2_with (first | ((with_reducible refine gate_callee (f := 60) rfl ?_); refine goesL_ (some 14) rfl rfl Try.func60 (by kernel_rfl) rfl #[.string (rdOf ByteArray.empty l0 0)] rfl (by (try simp only [List.map_toArray, List.map_cons, List.map_nil]); first | done | rfl | (simp only [List.length_drop, List.length_take]; rfl)) ?_; (with_reducible refine (letterlockref3_OfHash.calls k (rdOf ByteArray.empty l0 0) t309 t310 _ A4.out).mono ?_); rintro e w5 ⟨rfl, hb⟩; refine ⟨_, rfl, ?_⟩; have n0_ := Aside0.mk (below_step (by repeat (first | (with_reducible first | exact HB.out | apply below_alloc | apply pw_below_drewN | apply below_drew1) | exact HB.out)) hb); clear HB; have HB := n0_; clear n0_; (try clear hb); (try clear hb2); (try clear hk); (try clear hi)))
      go_ret2
      exact ⟨by first | rfl | (simp [errW_none, errW_some] <;> rfl) | (simp [*, errW_none, errW_some] <;> rfl), by repeat (first | (with_reducible first | exact HB.out | apply below_alloc | apply pw_below_drewN | apply below_drew1) | exact HB.out)⟩
    · rw [if_neg c3] at H
      exact absurd H (by simp)
  · rw [if_neg c2] at H
    have c2b0 : ((l0.length : Int) == 1) = false := beq_eq_false_iff_ne.mpr c2
    have c2b1 : ((l0.length : Int) != 1) = true := bne_iff_ne.mpr c2
    replace H := Option.bind_eq_some_iff.mp H
    obtain ⟨t311, A60, H⟩ := H
    replace H : (if 0 ≤ t311 then (if t311 ≤ (l0.length : Int) then ((letterlockref10_tree.f k (l0.take (t311 : Int).toNat)).bind fun bt313 => (if bt313.2 = 0 then ((letterlockref10_tree.f k (l0.drop (t311 : Int).toNat)).bind fun bt316 => (if bt316.2 = 0 then ((letterlockref10_over.f k bt313.1 bt316.1).bind fun bt318 => (some (bt318.1, bt318.2))) else (some ((⟨#[]⟩ : ByteArray), bt316.2)))) else (some ((⟨#[]⟩ : ByteArray), bt313.2)))) else (none)) else (none)) = some (r1, r2) := H
    have A6 := Aside0.mk A60
    clear A60
    by_cases c7 : 0 ≤ t311
    · rw [if_pos c7] at H
      have c7b0 := eq_true c7
      have c7b1 : decide (0 ≤ t311) = true := decide_eq_true c7
      clear c7
      by_cases c8 : t311 ≤ (l0.length : Int)
      · rw [if_pos c8] at H
        have c8b0 := eq_true c8
        have c8b1 : decide (t311 ≤ (l0.length : Int)) = true := decide_eq_true c8
        clear c8
        replace H := Option.bind_eq_some_iff.mp H
        obtain ⟨⟨t313, t314⟩, A90, H⟩ := H
        replace H : (if t314 = 0 then ((letterlockref10_tree.f k (l0.drop (t311 : Int).toNat)).bind fun bt316 => (if bt316.2 = 0 then ((letterlockref10_over.f k t313 bt316.1).bind fun bt318 => (some (bt318.1, bt318.2))) else (some ((⟨#[]⟩ : ByteArray), bt316.2)))) else (some ((⟨#[]⟩ : ByteArray), t314))) = some (r1, r2) := H
        have A9 := Aside0.mk A90
        clear A90
        by_cases c10 : t314 = 0
        · rw [if_pos c10] at H
          have c10b0 : (t314 == 0) = true := beq_iff_eq.mpr c10
          have c10b1 : (t314 != 0) = false := bne_eq_false_iff_eq.mpr c10
          clear c10
          have c11b0 := eq_true (of_decide_eq_true (by first | (with_reducible assumption) | assumption) : 0 ≤ t311)
          have c12b0 := eq_true (of_decide_eq_true (by first | (with_reducible assumption) | assumption) : t311 ≤ (l0.length : Int))
          replace H := Option.bind_eq_some_iff.mp H
          obtain ⟨⟨t316, t317⟩, A130, H⟩ := H
          replace H : (if t317 = 0 then ((letterlockref10_over.f k t313 t316).bind fun bt318 => (some (bt318.1, bt318.2))) else (some ((⟨#[]⟩ : ByteArray), t317))) = some (r1, r2) := H
          have A13 := Aside0.mk A130
          clear A130
          by_cases c14 : t317 = 0
          · rw [if_pos c14] at H
            have c14b0 : (t317 == 0) = true := beq_iff_eq.mpr c14
            have c14b1 : (t317 != 0) = false := bne_eq_false_iff_eq.mpr c14
            clear c14
            replace H := Option.bind_eq_some_iff.mp H
            obtain ⟨⟨t318, t319⟩, A150, H⟩ := H
            replace H : (some (t318, t319)) = some (r1, r2) := H
            have A15 := Aside0.mk A150
            clear A150
            simp only [Option.some.injEq, Prod.mk.injEq] at H
            obtain ⟨rfl, rfl⟩ := H
            go_enter Try.func40, Try.ntmps40
            go_wp2_with (first | ((with_reducible refine gate_callee (f := 61) rfl ?_); refine goesL_ (some 19) rfl rfl Try.func61 (by kernel_rfl) rfl #[.int .i64 (l0.length : Int)] rfl (by (try simp only [List.map_toArray, List.map_cons, List.map_nil]); first | done | rfl | (simp only [List.length_drop, List.length_take]; rfl)) ?_; (with_reducible refine (letterlockref10_first.calls k (l0.length : Int) t311 _ A6.out).mono ?_); rintro e w' ⟨rfl, ⟨nd, rfl⟩⟩; refine ⟨_, rfl, ?_⟩; obtain ⟨i016, hi016, _, hsz16, _⟩ := info_parts info9; obtain ⟨hcut16, hA16, hC16⟩ := print_take_of (P := Try.prog) Value.string (⟨#[]⟩ : ByteArray) 24 9 .i64 Try.underlying24 hi016 hsz16 A0 c0 l0 t311 (of_decide_eq_true (by first | (with_reducible assumption) | assumption)) (of_decide_eq_true (by first | (with_reducible assumption) | assumption)) HC0.out; have HR312 := Aside0.mk (Kd.C_of_reads (h1 := fun _ => rfl) (hA16 _ (Kd.reads_of_C HR0.out))); have HC312 := Aside0.mk hC16; clear hA16 hC16 hi016 hsz16) | ((with_reducible refine gate_callee (f := 40) rfl ?_); refine goesL_ (some 24) rfl rfl Try.func40 (by kernel_rfl) rfl #[.slice A0 (l0.take (t311 : Int).toNat).length c0] rfl (by (try simp only [List.map_toArray, List.map_cons, List.map_nil]); first | done | (rw [show (l0.take (t311 : Int).toNat).length = t311.toNat from (by rw [List.length_take]; have h_ : (t311 : Int) ≤ (l0.length : Int) := of_decide_eq_true (by first | (with_reducible assumption) | assumption); omega)] <;> rfl) | rfl | (simp only [List.length_drop, List.length_take]; rfl)) ?_; (with_reducible refine (ih k (by omega) _ _ (l0.take (t311 : Int).toNat) t313 t314 _ ?side1 ?side2 A9.out).mono ?_); (case side1 => repeat (first | exact HR312.out | (with_reducible refine Kd.C_alloc ?_ _) | (with_reducible refine Kd.C_drewN ?_ _) | (with_reducible refine Kd.C_drew ?_))); (case side2 => exact HC312.out); rintro e w17 ⟨rfl, hb⟩; refine ⟨_, rfl, ?_⟩; have n0_ := Aside0.mk (below_step (by repeat (first | (with_reducible first | exact HB.out | apply below_alloc | apply pw_below_drewN | apply below_drew1) | exact HB.out)) hb); clear HB; have HB := n0_; clear n0_; (try clear hb); (try clear hb2); (try clear hk); (try clear hi); obtain ⟨i018, hi018, _, hsz18, _⟩ := info_parts info9; obtain ⟨A18, hcut18, hA18, hC18⟩ := print_drop_of (P := Try.prog) Value.string (⟨#[]⟩ : ByteArray) 24 9 .i64 Try.underlying24 hi018 hsz18 A0 c0 l0 t311 (of_decide_eq_true (by first | (with_reducible assumption) | assumption)) (of_decide_eq_true (by first | (with_reducible assumption) | assumption)) HC0.out; have HR315 := Aside0.mk (Kd.C_of_reads (h1 := fun _ => rfl) (hA18 _ (Kd.reads_of_C HR0.out))); have HC315 := Aside0.mk hC18; clear hA18 hC18 hi018 hsz18) | ((with_reducible refine gate_callee (f := 40) rfl ?_); refine goesL_ (some 34) rfl rfl Try.func40 (by kernel_rfl) rfl #[.slice A18 (l0.drop (t311 : Int).toNat).length (c0 - t311.toNat)] rfl (by (try simp only [List.map_toArray, List.map_cons, List.map_nil]); first | done | (rw [show (l0.drop (t311 : Int).toNat).length = (l0.length - t311.toNat) from List.length_drop] <;> rfl) | rfl | (simp only [List.length_drop, List.length_take]; rfl)) ?_; (with_reducible refine (ih k (by omega) _ _ (l0.drop (t311 : Int).toNat) t316 t317 _ ?side1 ?side2 A13.out).mono ?_); (case side1 => repeat (first | exact (Kd.C_below HR315.out HB.out) | (with_reducible refine Kd.C_alloc ?_ _) | (with_reducible refine Kd.C_drewN ?_ _) | (with_reducible refine Kd.C_drew ?_))); (case side2 => exact HC315.out); rintro e w19 ⟨rfl, hb⟩; refine ⟨_, rfl, ?_⟩; have n0_ := Aside0.mk (below_step (by repeat (first | (with_reducible first | exact HB.out | apply below_alloc | apply pw_below_drewN | apply below_drew1) | exact HB.out)) hb); clear HB; have HB := n0_; clear n0_; (try clear hb); (try clear hb2); (try clear hk); (try clear hi)) | ((with_reducible refine gate_callee (f := 62) rfl ?_); refine goesL_ (some 42) rfl rfl Try.func62 (by kernel_rfl) rfl #[.string t313, .string t316] rfl (by (try simp only [List.map_toArray, List.map_cons, List.map_nil]); first | done | rfl | (simp only [List.length_drop, List.length_take]; rfl)) ?_; (with_reducible refine (letterlockref10_over.calls k t313 t316 t318 t319 _ A15.out).mono ?_); rintro e w20 ⟨rfl, hb⟩; refine ⟨_, rfl, ?_⟩; have n0_ := Aside0.mk (below_step (by repeat (first | (with_reducible first | exact HB.out | apply below_alloc | apply pw_below_drewN | apply below_drew1) | exact HB.out)) hb); clear HB; have HB := n0_; clear n0_; (try clear hb); (try clear hb2); (try clear hk); (try clear hi)))
            go_ret2
            exact ⟨by first | rfl | (simp [errW_none, errW_some] <;> rfl) | (simp [*, errW_none, errW_some] <;> rfl), by repeat (first | (with_reducible first | exact HB.out | apply below_alloc | apply pw_below_drewN | apply below_drew1) | exact HB.out)⟩
          · rw [if_neg c14] at H
            have c14b0 : (t317 == 0) = false := beq_eq_false_iff_ne.mpr c14
            have c14b1 : (t317 != 0) = true := bne_iff_ne.mpr c14
            simp only [Option.some.injEq, Prod.mk.injEq] at H
            obtain ⟨rfl, rfl⟩ := H
            go_enter Try.func40, Try.ntmps40
            go_wp2_with (first | ((with_reducible refine gate_callee (f := 61) rfl ?_); refine goesL_ (some 19) rfl rfl Try.func61 (by kernel_rfl) rfl #[.int .i64 (l0.length : Int)] rfl (by (try simp only [List.map_toArray, List.map_cons, List.map_nil]); first | done | rfl | (simp only [List.length_drop, List.length_take]; rfl)) ?_; (with_reducible refine (letterlockref10_first.calls k (l0.length : Int) t311 _ A6.out).mono ?_); rintro e w' ⟨rfl, ⟨nd, rfl⟩⟩; refine ⟨_, rfl, ?_⟩; obtain ⟨i021, hi021, _, hsz21, _⟩ := info_parts info9; obtain ⟨hcut21, hA21, hC21⟩ := print_take_of (P := Try.prog) Value.string (⟨#[]⟩ : ByteArray) 24 9 .i64 Try.underlying24 hi021 hsz21 A0 c0 l0 t311 (of_decide_eq_true (by first | (with_reducible assumption) | assumption)) (of_decide_eq_true (by first | (with_reducible assumption) | assumption)) HC0.out; have HR312 := Aside0.mk (Kd.C_of_reads (h1 := fun _ => rfl) (hA21 _ (Kd.reads_of_C HR0.out))); have HC312 := Aside0.mk hC21; clear hA21 hC21 hi021 hsz21) | ((with_reducible refine gate_callee (f := 40) rfl ?_); refine goesL_ (some 24) rfl rfl Try.func40 (by kernel_rfl) rfl #[.slice A0 (l0.take (t311 : Int).toNat).length c0] rfl (by (try simp only [List.map_toArray, List.map_cons, List.map_nil]); first | done | (rw [show (l0.take (t311 : Int).toNat).length = t311.toNat from (by rw [List.length_take]; have h_ : (t311 : Int) ≤ (l0.length : Int) := of_decide_eq_true (by first | (with_reducible assumption) | assumption); omega)] <;> rfl) | rfl | (simp only [List.length_drop, List.length_take]; rfl)) ?_; (with_reducible refine (ih k (by omega) _ _ (l0.take (t311 : Int).toNat) t313 t314 _ ?side1 ?side2 A9.out).mono ?_); (case side1 => repeat (first | exact HR312.out | (with_reducible refine Kd.C_alloc ?_ _) | (with_reducible refine Kd.C_drewN ?_ _) | (with_reducible refine Kd.C_drew ?_))); (case side2 => exact HC312.out); rintro e w22 ⟨rfl, hb⟩; refine ⟨_, rfl, ?_⟩; have n0_ := Aside0.mk (below_step (by repeat (first | (with_reducible first | exact HB.out | apply below_alloc | apply pw_below_drewN | apply below_drew1) | exact HB.out)) hb); clear HB; have HB := n0_; clear n0_; (try clear hb); (try clear hb2); (try clear hk); (try clear hi); obtain ⟨i023, hi023, _, hsz23, _⟩ := info_parts info9; obtain ⟨A23, hcut23, hA23, hC23⟩ := print_drop_of (P := Try.prog) Value.string (⟨#[]⟩ : ByteArray) 24 9 .i64 Try.underlying24 hi023 hsz23 A0 c0 l0 t311 (of_decide_eq_true (by first | (with_reducible assumption) | assumption)) (of_decide_eq_true (by first | (with_reducible assumption) | assumption)) HC0.out; have HR315 := Aside0.mk (Kd.C_of_reads (h1 := fun _ => rfl) (hA23 _ (Kd.reads_of_C HR0.out))); have HC315 := Aside0.mk hC23; clear hA23 hC23 hi023 hsz23) | ((with_reducible refine gate_callee (f := 40) rfl ?_); refine goesL_ (some 34) rfl rfl Try.func40 (by kernel_rfl) rfl #[.slice A23 (l0.drop (t311 : Int).toNat).length (c0 - t311.toNat)] rfl (by (try simp only [List.map_toArray, List.map_cons, List.map_nil]); first | done | (rw [show (l0.drop (t311 : Int).toNat).length = (l0.length - t311.toNat) from List.length_drop] <;> rfl) | rfl | (simp only [List.length_drop, List.length_take]; rfl)) ?_; (with_reducible refine (ih k (by omega) _ _ (l0.drop (t311 : Int).toNat) t316 t317 _ ?side1 ?side2 A13.out).mono ?_); (case side1 => repeat (first | exact (Kd.C_below HR315.out HB.out) | (with_reducible refine Kd.C_alloc ?_ _) | (with_reducible refine Kd.C_drewN ?_ _) | (with_reducible refine Kd.C_drew ?_))); (case side2 => exact HC315.out); rintro e w24 ⟨rfl, hb⟩; refine ⟨_, rfl, ?_⟩; have n0_ := Aside0.mk (below_step (by repeat (first | (with_reducible first | exact HB.out | apply below_alloc | apply pw_below_drewN | apply below_drew1) | exact HB.out)) hb); clear HB; have HB := n0_; clear n0_; (try clear hb); (try clear hb2); (try clear hk); (try clear hi)))
            go_ret2
            exact ⟨by first | rfl | (simp [errW_none, errW_some] <;> rfl) | (simp [*, errW_none, errW_some] <;> rfl), by repeat (first | (with_reducible first | exact HB.out | apply below_alloc | apply pw_below_drewN | apply below_drew1) | exact HB.out)⟩
        · rw [if_neg c10] at H
          have c10b0 : (t314 == 0) = false := beq_eq_false_iff_ne.mpr c10
          have c10b1 : (t314 != 0) = true := bne_iff_ne.mpr c10
          simp only [Option.some.injEq, Prod.mk.injEq] at H
          obtain ⟨rfl, rfl⟩ := H
          go_enter Try.func40, Try.ntmps40
          go_wp2_with (first | ((with_reducible refine gate_callee (f := 61) rfl ?_); refine goesL_ (some 19) rfl rfl Try.func61 (by kernel_rfl) rfl #[.int .i64 (l0.length : Int)] rfl (by (try simp only [List.map_toArray, List.map_cons, List.map_nil]); first | done | rfl | (simp only [List.length_drop, List.length_take]; rfl)) ?_; (with_reducible refine (letterlockref10_first.calls k (l0.length : Int) t311 _ A6.out).mono ?_); rintro e w' ⟨rfl, ⟨nd, rfl⟩⟩; refine ⟨_, rfl, ?_⟩; obtain ⟨i025, hi025, _, hsz25, _⟩ := info_parts info9; obtain ⟨hcut25, hA25, hC25⟩ := print_take_of (P := Try.prog) Value.string (⟨#[]⟩ : ByteArray) 24 9 .i64 Try.underlying24 hi025 hsz25 A0 c0 l0 t311 (of_decide_eq_true (by first | (with_reducible assumption) | assumption)) (of_decide_eq_true (by first | (with_reducible assumption) | assumption)) HC0.out; have HR312 := Aside0.mk (Kd.C_of_reads (h1 := fun _ => rfl) (hA25 _ (Kd.reads_of_C HR0.out))); have HC312 := Aside0.mk hC25; clear hA25 hC25 hi025 hsz25) | ((with_reducible refine gate_callee (f := 40) rfl ?_); refine goesL_ (some 24) rfl rfl Try.func40 (by kernel_rfl) rfl #[.slice A0 (l0.take (t311 : Int).toNat).length c0] rfl (by (try simp only [List.map_toArray, List.map_cons, List.map_nil]); first | done | (rw [show (l0.take (t311 : Int).toNat).length = t311.toNat from (by rw [List.length_take]; have h_ : (t311 : Int) ≤ (l0.length : Int) := of_decide_eq_true (by first | (with_reducible assumption) | assumption); omega)] <;> rfl) | rfl | (simp only [List.length_drop, List.length_take]; rfl)) ?_; (with_reducible refine (ih k (by omega) _ _ (l0.take (t311 : Int).toNat) t313 t314 _ ?side1 ?side2 A9.out).mono ?_); (case side1 => repeat (first | exact HR312.out | (with_reducible refine Kd.C_alloc ?_ _) | (with_reducible refine Kd.C_drewN ?_ _) | (with_reducible refine Kd.C_drew ?_))); (case side2 => exact HC312.out); rintro e w26 ⟨rfl, hb⟩; refine ⟨_, rfl, ?_⟩; have n0_ := Aside0.mk (below_step (by repeat (first | (with_reducible first | exact HB.out | apply below_alloc | apply pw_below_drewN | apply below_drew1) | exact HB.out)) hb); clear HB; have HB := n0_; clear n0_; (try clear hb); (try clear hb2); (try clear hk); (try clear hi)))
          go_ret2
          exact ⟨by first | rfl | (simp [errW_none, errW_some] <;> rfl) | (simp [*, errW_none, errW_some] <;> rfl), by repeat (first | (with_reducible first | exact HB.out | apply below_alloc | apply pw_below_drewN | apply below_drew1) | exact HB.out)⟩
      · rw [if_neg c8] at H
        exact absurd H (by simp)
    · rw [if_neg c7] at H
      exact absurd H (by simp)

/-! ### letterlockref10_Root: function 20 -/
mutual
def letterlockref10_Root.j0 : Nat → List ByteArray → Bool → Option (ByteArray × Int)
  | 0, _, _ => none
  | k + 1, x0, x12 => if x12 = true then (some ((⟨#[]⟩ : ByteArray), 1)) else (letterlockref10_Root.l0 k x0 0)
def letterlockref10_Root.l0 : Nat → List ByteArray → Int → Option (ByteArray × Int)
  | 0, _, _ => none
  | k + 1, x0, x4 => if x4 < (x0.length : Int) then (if 0 ≤ x4 then ((letterlockref10_leaf.f k (rdOf ByteArray.empty x0 x4)).bind fun t321 => (if t321 = true then (letterlockref10_Root.l0 k x0 (wrap64 (x4 + 1))) else (some ((⟨#[]⟩ : ByteArray), 1)))) else (none)) else ((letterlockref10_tree.f k x0).bind fun bt322 => (some (bt322.1, bt322.2)))
end
def letterlockref10_Root.f (k : Nat) (l0 : List ByteArray) : Option (ByteArray × Int) := if (l0.length : Int) < 1 then (letterlockref10_Root.j0 k l0 true) else (letterlockref10_Root.j0 k l0 (decide ((l0.length : Int) > 8)))
theorem letterlockref10_Root.mono_l : ∀ k, (∀ y0 y1, LeO (letterlockref10_Root.j0 k y0 y1) (letterlockref10_Root.j0 (k + 1) y0 y1)) ∧ (∀ y0 y1, LeO (letterlockref10_Root.l0 k y0 y1) (letterlockref10_Root.l0 (k + 1) y0 y1))
  | 0 => ⟨fun _ _ r h => by simp [letterlockref10_Root.j0] at h, fun _ _ r h => by simp [letterlockref10_Root.l0] at h⟩
  | k + 1 => by
    obtain ⟨ih0, ih1⟩ := letterlockref10_Root.mono_l k
    refine ⟨?_, ?_⟩
    · intro y0 y1
      unfold letterlockref10_Root.j0
      repeat' first
      | (with_reducible exact ih0 _ _)
      | (with_reducible exact ih1 _ _)
      | (with_reducible exact letterlockref10_leaf.mono _ _)
      | (with_reducible exact letterlockref10_tree.mono _ _)
      | (with_reducible exact LeO.refl _)
      | (with_reducible exact LeO.none _)
      | (with_reducible refine LeO.ite ?_ ?_)
      | (with_reducible refine LeO.bind ?_ (fun _ => ?_))
      | exact ih0 _ _
      | exact ih1 _ _
      | exact letterlockref10_leaf.mono _ _
      | exact letterlockref10_tree.mono _ _
      | exact LeO.none _
      | refine LeO.ite ?_ ?_
      | refine LeO.bind ?_ (fun _ => ?_)
    · intro y0 y1
      unfold letterlockref10_Root.l0
      repeat' first
      | (with_reducible exact ih0 _ _)
      | (with_reducible exact ih1 _ _)
      | (with_reducible exact letterlockref10_leaf.mono _ _)
      | (with_reducible exact letterlockref10_tree.mono _ _)
      | (with_reducible exact LeO.refl _)
      | (with_reducible exact LeO.none _)
      | (with_reducible refine LeO.ite ?_ ?_)
      | (with_reducible refine LeO.bind ?_ (fun _ => ?_))
      | exact ih0 _ _
      | exact ih1 _ _
      | exact letterlockref10_leaf.mono _ _
      | exact letterlockref10_tree.mono _ _
      | exact LeO.none _
      | refine LeO.ite ?_ ?_
      | refine LeO.bind ?_ (fun _ => ?_)
theorem letterlockref10_Root.mono : ∀ a0 k, LeO (letterlockref10_Root.f k a0) (letterlockref10_Root.f (k + 1) a0) := by
  intro a0 k
  obtain ⟨ih0, ih1⟩ := letterlockref10_Root.mono_l k
  unfold letterlockref10_Root.f
  repeat' first
      | (with_reducible exact ih0 _ _)
      | (with_reducible exact ih1 _ _)
      | (with_reducible exact letterlockref10_leaf.mono _ _)
      | (with_reducible exact letterlockref10_tree.mono _ _)
      | (with_reducible exact LeO.refl _)
      | (with_reducible exact LeO.none _)
      | (with_reducible refine LeO.ite ?_ ?_)
      | (with_reducible refine LeO.bind ?_ (fun _ => ?_))
      | exact ih0 _ _
      | exact ih1 _ _
      | exact letterlockref10_leaf.mono _ _
      | exact letterlockref10_tree.mono _ _
      | exact LeO.none _
      | refine LeO.ite ?_ ?_
      | refine LeO.bind ?_ (fun _ => ?_)
set_option maxHeartbeats 8000000 in
set_option maxRecDepth 100000 in
theorem letterlockref10_Root.calls (k : Nat) (A0 : Option Addr) (c0 : Nat) (l0 : List ByteArray) (r1 : ByteArray) (r2 : Int) (w : World) (hr0 : Kd.C Kd.string w A0 l0.length l0) (hc0 : l0.length ≤ c0) (h : letterlockref10_Root.f k l0 = some (r1, r2)) :
    Calls Try.prog 20 #[.slice A0 l0.length c0] w fun e w' => e = .returned (.tuple #[.string r1, .int .i64 r2]) ∧ Below w.heap.size w w' := by
  have HR0 := Aside0.mk hr0
  have HC0 := Aside0.mk hc0
  clear hr0 hc0
  have HB := Aside0.mk (Below.refl w.heap.size w)
  have H : (if (l0.length : Int) < 1 then (letterlockref10_Root.j0 k l0 true) else (letterlockref10_Root.j0 k l0 (decide ((l0.length : Int) > 8)))) = some (r1, r2) := h
  clear h
  have HC2 := Aside0.mk H
  clear H
  go_enter Try.func20, Try.ntmps20
  go_upto_region 1 with (fail)
  go_cut [12] (fun v12 wc => ∃ (kq : Nat) (x12_1 : Bool), v12 = .bool x12_1 ∧ Aside0 (letterlockref10_Root.j0 kq l0 x12_1 = some (r1, r2)) ∧ Aside0 (kq ≤ k) ∧ Aside0 (Below w.heap.size w wc))
  case first =>
    have H := HC2.out
    clear HC2
    by_cases c3 : (l0.length : Int) < 1
    · rw [if_pos c3] at H
      have c3b0 : decide ((l0.length : Int) < 1) = true := decide_eq_true c3
      have c3b1 : decide (l0.length < 1) = true := decide_eq_true (by omega)
      clear c3
      (first | rw [c3b0] | (simp only [i64_w, i32_w]; rw [c3b0]) | skip)
      have H' := Aside0.mk H
      clear H
      go_wp2
      go_meet
      case rel => exact ⟨_, (true), (by first | rfl | (simp; done) | (simp [*]; done) | (simp; exact isEmpty_ne _)), H', ⟨by first | omega | exact Nat.le_refl _⟩, ⟨by repeat (first | (with_reducible first | exact HB.out | apply below_alloc | apply pw_below_drewN | apply below_drew1) | exact HB.out)⟩⟩
    · rw [if_neg c3] at H
      have c3b0 : decide ((l0.length : Int) < 1) = false := decide_eq_false c3
      have c3b1 : decide (l0.length < 1) = false := decide_eq_false (by omega)
      clear c3
      (first | rw [c3b0] | (simp only [i64_w, i32_w]; rw [c3b0]) | skip)
      have H' := Aside0.mk H
      clear H
      go_wp2
      go_meet
      case rel => exact ⟨_, (decide ((l0.length : Int) > 8)), (by first | rfl | (simp; done) | (simp [*]; done) | (simp; exact isEmpty_ne _)), H', ⟨by first | omega | exact Nat.le_refl _⟩, ⟨by repeat (first | (with_reducible first | exact HB.out | apply below_alloc | apply pw_below_drewN | apply below_drew1) | exact HB.out)⟩⟩
  case rest =>
    clear HC2
    try clear c2
    try clear p2
    try clear c3
    try clear c3b0
    try clear c3b1
    obtain ⟨kq, x12_1, rfl, HA, HJ1, HB⟩ := hcut
    cases kq with
    | zero => exact absurd HA.out (by simp [letterlockref10_Root.j0])
    | succ kj1 =>
      have H := HA.out
      clear HA
      simp only [letterlockref10_Root.j0] at H
      by_cases c4 : x12_1 = true
      · subst c4
        have H1 : (some ((⟨#[]⟩ : ByteArray), 1)) = some (r1, r2) := by rw [if_pos rfl] at H; exact H
        clear H
        have H := H1
        clear H1
        simp only [Option.some.injEq, Prod.mk.injEq] at H
        obtain ⟨rfl, rfl⟩ := H
        go_wp2
        go_ret2
        exact ⟨by first | rfl | (simp [errW_none, errW_some] <;> rfl) | (simp [*, errW_none, errW_some] <;> rfl), by repeat (first | (with_reducible first | exact HB.out | apply below_alloc | apply pw_below_drewN | apply below_drew1) | exact HB.out)⟩
      · replace c4 := Bool.eq_false_iff.mpr c4
        subst c4
        have H1 : (letterlockref10_Root.l0 kj1 l0 0) = some (r1, r2) := by rw [if_neg (show ¬ (false = true) by decide)] at H; exact H
        clear H
        have H := H1
        clear H1
        have H' := Aside0.mk H
        clear H
        go_wp2
        go_loopg [4] kj1 (fun kq v4 w' => ∃ (x4_2 : Int), v4 = .int .i64 x4_2 ∧ Aside0 (letterlockref10_Root.l0 kq l0 x4_2 = some (r1, r2)) ∧ Aside0 (kq ≤ kj1) ∧ Aside0 (Below w.heap.size w w'))
        case atStart => exact ⟨(0), (by first | rfl | (simp; done) | (simp [*]; done) | (simp; exact isEmpty_ne _)), H', ⟨Nat.le_refl _⟩, ⟨by repeat (first | (with_reducible first | exact HB.out | apply below_alloc | apply pw_below_drewN | apply below_drew1) | exact HB.out)⟩⟩
        case round =>
          clear H'
          try clear c2
          try clear p2
          try clear c3
          try clear c3b0
          try clear c3b1
          try clear c4
          try clear p2
          obtain ⟨x4_2, rfl, HA, HK2, HB⟩ := hrel
          cases gk with
          | zero => exact absurd HA.out (by simp [letterlockref10_Root.l0])
          | succ k2 =>
            have H := HA.out
            clear HA
            simp only [letterlockref10_Root.l0] at H
            by_cases c5 : x4_2 < (l0.length : Int)
            · rw [if_pos c5] at H
              have c5b0 : decide (x4_2 < (l0.length : Int)) = true := decide_eq_true c5
              clear c5
              by_cases c6 : 0 ≤ x4_2
              · rw [if_pos c6] at H
                have c6b0 : decide (0 ≤ x4_2) = true := decide_eq_true c6
                clear c6
                replace H := Option.bind_eq_some_iff.mp H
                obtain ⟨t321, A70, H⟩ := H
                replace H : (if t321 = true then (letterlockref10_Root.l0 k2 l0 (wrap64 (x4_2 + 1))) else (some ((⟨#[]⟩ : ByteArray), 1))) = some (r1, r2) := H
                have A7 := Aside0.mk A70
                clear A70
                by_cases c8 : t321 = true
                · subst c8
                  have H1 : (letterlockref10_Root.l0 k2 l0 (wrap64 (x4_2 + 1))) = some (r1, r2) := by rw [if_pos rfl] at H; exact H
                  clear H
                  have H := H1
                  clear H1
                  have H' := Aside0.mk H
                  clear H
                  have p320 : 0 ≤ (x4_2 : Int) := of_decide_eq_true (by first | (with_reducible assumption) | assumption)
                  have q320 : x4_2 < (l0.length : Int) := of_decide_eq_true (by first | (with_reducible assumption) | assumption)
                  obtain ⟨ad320, e320, hx320_0⟩ := Kd.at_string HR0.out x4_2 p320 q320
                  cases e320
                  replace hx320_0 := (HB.out.cell (World.block_lt_of_cell? w _ hx320_0)).trans hx320_0
                  replace p320 := eq_true p320
                  replace q320 := eq_true q320
                  go_wp2_with (first | ((with_reducible refine gate_callee (f := 39) rfl ?_); refine goesL_ (some 23) rfl rfl Try.func39 (by kernel_rfl) rfl #[.string (rdOf ByteArray.empty l0 x4_2)] rfl (by (try simp only [List.map_toArray, List.map_cons, List.map_nil]); first | done | rfl | (simp only [List.length_drop, List.length_take]; rfl)) ?_; (with_reducible refine (letterlockref10_leaf.calls k2 (rdOf ByteArray.empty l0 x4_2) true _ A7.out).mono ?_); rintro e w9 ⟨rfl, hb⟩; refine ⟨_, rfl, ?_⟩; have n0_ := Aside0.mk (below_step (by repeat (first | (with_reducible first | exact HB.out | apply below_alloc | apply pw_below_drewN | apply below_drew1) | exact HB.out)) hb); clear HB; have HB := n0_; clear n0_; (try clear hb); (try clear hb2); (try clear hk); (try clear hi)))
                  go_roundg k2
                  case measure => have := HJ1.out; have := HK2.out; omega
                  case rel => exact ⟨(wrap64 (x4_2 + 1)), (by first | rfl | (simp; done) | (simp [*]; done) | (simp; exact isEmpty_ne _)), H', ⟨by have := HJ1.out; have := HK2.out; omega⟩, ⟨by repeat (first | (with_reducible first | exact HB.out | apply below_alloc | apply pw_below_drewN | apply below_drew1) | exact HB.out)⟩⟩
                · replace c8 := Bool.eq_false_iff.mpr c8
                  subst c8
                  have H1 : (some ((⟨#[]⟩ : ByteArray), 1)) = some (r1, r2) := by rw [if_neg (show ¬ (false = true) by decide)] at H; exact H
                  clear H
                  have H := H1
                  clear H1
                  simp only [Option.some.injEq, Prod.mk.injEq] at H
                  obtain ⟨rfl, rfl⟩ := H
                  have p320 : 0 ≤ (x4_2 : Int) := of_decide_eq_true (by first | (with_reducible assumption) | assumption)
                  have q320 : x4_2 < (l0.length : Int) := of_decide_eq_true (by first | (with_reducible assumption) | assumption)
                  obtain ⟨ad320, e320, hx320_0⟩ := Kd.at_string HR0.out x4_2 p320 q320
                  cases e320
                  replace hx320_0 := (HB.out.cell (World.block_lt_of_cell? w _ hx320_0)).trans hx320_0
                  replace p320 := eq_true p320
                  replace q320 := eq_true q320
                  go_wp2_with (first | ((with_reducible refine gate_callee (f := 39) rfl ?_); refine goesL_ (some 23) rfl rfl Try.func39 (by kernel_rfl) rfl #[.string (rdOf ByteArray.empty l0 x4_2)] rfl (by (try simp only [List.map_toArray, List.map_cons, List.map_nil]); first | done | rfl | (simp only [List.length_drop, List.length_take]; rfl)) ?_; (with_reducible refine (letterlockref10_leaf.calls k2 (rdOf ByteArray.empty l0 x4_2) false _ A7.out).mono ?_); rintro e w10 ⟨rfl, hb⟩; refine ⟨_, rfl, ?_⟩; have n0_ := Aside0.mk (below_step (by repeat (first | (with_reducible first | exact HB.out | apply below_alloc | apply pw_below_drewN | apply below_drew1) | exact HB.out)) hb); clear HB; have HB := n0_; clear n0_; (try clear hb); (try clear hb2); (try clear hk); (try clear hi)))
                  go_ret2
                  exact ⟨by first | rfl | (simp [errW_none, errW_some] <;> rfl) | (simp [*, errW_none, errW_some] <;> rfl), by repeat (first | (with_reducible first | exact HB.out | apply below_alloc | apply pw_below_drewN | apply below_drew1) | exact HB.out)⟩
              · rw [if_neg c6] at H
                exact absurd H (by simp)
            · rw [if_neg c5] at H
              have c5b0 : decide (x4_2 < (l0.length : Int)) = false := decide_eq_false c5
              clear c5
              replace H := Option.bind_eq_some_iff.mp H
              obtain ⟨⟨t322, t323⟩, A110, H⟩ := H
              replace H : (some (t322, t323)) = some (r1, r2) := H
              have A11 := Aside0.mk A110
              clear A110
              simp only [Option.some.injEq, Prod.mk.injEq] at H
              obtain ⟨rfl, rfl⟩ := H
              go_wp2_with (first | ((with_reducible refine gate_callee (f := 40) rfl ?_); refine goesL_ (some 26) rfl rfl Try.func40 (by kernel_rfl) rfl #[.slice A0 l0.length c0] rfl (by (try simp only [List.map_toArray, List.map_cons, List.map_nil]); first | done | rfl | (simp only [List.length_drop, List.length_take]; rfl)) ?_; (with_reducible refine (letterlockref10_tree.calls k2 _ _ l0 t322 t323 _ ?side1 ?side2 A11.out).mono ?_); (case side1 => repeat (first | exact (Kd.C_below HR0.out HB.out) | (with_reducible refine Kd.C_alloc ?_ _) | (with_reducible refine Kd.C_drewN ?_ _) | (with_reducible refine Kd.C_drew ?_))); (case side2 => exact HC0.out); rintro e w12 ⟨rfl, hb⟩; refine ⟨_, rfl, ?_⟩; have n0_ := Aside0.mk (below_step (by repeat (first | (with_reducible first | exact HB.out | apply below_alloc | apply pw_below_drewN | apply below_drew1) | exact HB.out)) hb); clear HB; have HB := n0_; clear n0_; (try clear hb); (try clear hb2); (try clear hk); (try clear hi)))
              go_ret2
              exact ⟨by first | rfl | (simp [errW_none, errW_some] <;> rfl) | (simp [*, errW_none, errW_some] <;> rfl), by repeat (first | (with_reducible first | exact HB.out | apply below_alloc | apply pw_below_drewN | apply below_drew1) | exact HB.out)⟩

/-! ### letterlockref10_beside: function 43 -/
def letterlockref10_beside.f : Nat → List ByteArray → Int → Option (List ByteArray)
  | 0, _, _ => none
  | k + 1, l0, a1 => if (l0.length : Int) = 1 then (some ([] : List ByteArray)) else ((letterlockref10_first.f k (l0.length : Int)).bind fun t324 => (if a1 < t324 then (if 0 ≤ t324 then (if t324 ≤ (l0.length : Int) then ((letterlockref10_tree.f k (l0.drop (t324 : Int).toNat)).bind fun bt326 => ((letterlockref10_beside.f k (l0.take (t324 : Int).toNat) a1).bind fun t329 => (if t329.length < 8796093022208 then (some (t329 ++ [bt326.1])) else (none)))) else (none)) else (none)) else (if 0 ≤ t324 then (if t324 ≤ (l0.length : Int) then ((letterlockref10_tree.f k (l0.take (t324 : Int).toNat)).bind fun bt336 => ((letterlockref10_beside.f k (l0.drop (t324 : Int).toNat) (wrap64 (a1 - t324))).bind fun t339 => (if t339.length < 8796093022208 then (some (t339 ++ [bt336.1])) else (none)))) else (none)) else (none))))
theorem letterlockref10_beside.mono_l : ∀ k, (∀ y0 y1, LeO (letterlockref10_beside.f k y0 y1) (letterlockref10_beside.f (k + 1) y0 y1))
  | 0 => fun _ _ r h => by simp [letterlockref10_beside.f] at h
  | k + 1 => by
    have ih0 := letterlockref10_beside.mono_l k
    · intro y0 y1
      unfold letterlockref10_beside.f
      repeat' first
      | (with_reducible exact ih0 _ _)
      | (with_reducible exact letterlockref10_first.mono _ _)
      | (with_reducible exact letterlockref10_tree.mono _ _)
      | (with_reducible exact LeO.refl _)
      | (with_reducible exact LeO.none _)
      | (with_reducible refine LeO.ite ?_ ?_)
      | (with_reducible refine LeO.bind ?_ (fun _ => ?_))
      | exact ih0 _ _
      | exact letterlockref10_first.mono _ _
      | exact letterlockref10_tree.mono _ _
      | exact LeO.none _
      | refine LeO.ite ?_ ?_
      | refine LeO.bind ?_ (fun _ => ?_)
theorem letterlockref10_beside.mono : ∀ a0 a1 k, LeO (letterlockref10_beside.f k a0 a1) (letterlockref10_beside.f (k + 1) a0 a1) := by
  intro a0 a1 k
  have ih0 := letterlockref10_beside.mono_l k
  exact ih0 a0 a1
set_option maxHeartbeats 8000000 in
set_option maxRecDepth 100000 in
theorem letterlockref10_beside.calls (k : Nat) : ∀ (A0 : Option Addr) (c0 : Nat) (l0 : List ByteArray) (a1 : Int) (r : List ByteArray) (w : World) (hr0 : Kd.C Kd.string w A0 l0.length l0) (hc0 : l0.length ≤ c0) (h : letterlockref10_beside.f k l0 a1 = some r),
    Calls Try.prog 43 #[.slice A0 l0.length c0, .int .i64 a1] w fun e w' => ∃ v0_ : Value, e = .returned (v0_) ∧ Kd.R Kd.string 9 w' w.heap.size (fun _ => True) v0_ r ∧ Below w.heap.size w w' := by
  induction k using Nat.strongRecOn with
  | _ k ih =>
  intro A0 c0 l0 a1 r w hr0 hc0 h
  cases k with
  | zero => exact absurd h (by simp [letterlockref10_beside.f])
  | succ k =>
  simp only [letterlockref10_beside.f] at h
  have HR0 := Aside0.mk hr0
  have HC0 := Aside0.mk hc0
  clear hr0 hc0
  have HB := Aside0.mk (Below.refl w.heap.size w)
  have H : (if (l0.length : Int) = 1 then (some ([] : List ByteArray)) else ((letterlockref10_first.f k (l0.length : Int)).bind fun t324 => (if a1 < t324 then (if 0 ≤ t324 then (if t324 ≤ (l0.length : Int) then ((letterlockref10_tree.f k (l0.drop (t324 : Int).toNat)).bind fun bt326 => ((letterlockref10_beside.f k (l0.take (t324 : Int).toNat) a1).bind fun t329 => (if t329.length < 8796093022208 then (some (t329 ++ [bt326.1])) else (none)))) else (none)) else (none)) else (if 0 ≤ t324 then (if t324 ≤ (l0.length : Int) then ((letterlockref10_tree.f k (l0.take (t324 : Int).toNat)).bind fun bt336 => ((letterlockref10_beside.f k (l0.drop (t324 : Int).toNat) (wrap64 (a1 - t324))).bind fun t339 => (if t339.length < 8796093022208 then (some (t339 ++ [bt336.1])) else (none)))) else (none)) else (none))))) = some r := h
  clear h
  by_cases c3 : (l0.length : Int) = 1
  · rw [if_pos c3] at H
    have c3b0 : ((l0.length : Int) == 1) = true := beq_iff_eq.mpr c3
    have c3b1 : ((l0.length : Int) != 1) = false := bne_eq_false_iff_eq.mpr c3
    clear c3
    obtain rfl := Option.some.inj H
    go_enter Try.func43, Try.ntmps43
    go_wp2
    go_ret
    exact ⟨_, by first | rfl | (simp [errW_none, errW_some] <;> rfl) | (simp [*, errW_none, errW_some] <;> rfl), by first | exact Kd.R_nil _ _ _ _ _ | exact Kd.N_nil _ _ _ _ _ | exact Kd.V_nil _ _ _ _ _ | exact Kd.Q_nil _ _ _ _ _ | exact Kd.S_nil _ _ _ _ _, by repeat (first | (with_reducible first | exact HB.out | apply below_alloc | apply pw_below_drewN | apply below_drew1) | exact HB.out)⟩
  · rw [if_neg c3] at H
    have c3b0 : ((l0.length : Int) == 1) = false := beq_eq_false_iff_ne.mpr c3
    have c3b1 : ((l0.length : Int) != 1) = true := bne_iff_ne.mpr c3
    replace H := Option.bind_eq_some_iff.mp H
    obtain ⟨t324, A40, H⟩ := H
    replace H : (if a1 < t324 then (if 0 ≤ t324 then (if t324 ≤ (l0.length : Int) then ((letterlockref10_tree.f k (l0.drop (t324 : Int).toNat)).bind fun bt326 => ((letterlockref10_beside.f k (l0.take (t324 : Int).toNat) a1).bind fun t329 => (if t329.length < 8796093022208 then (some (t329 ++ [bt326.1])) else (none)))) else (none)) else (none)) else (if 0 ≤ t324 then (if t324 ≤ (l0.length : Int) then ((letterlockref10_tree.f k (l0.take (t324 : Int).toNat)).bind fun bt336 => ((letterlockref10_beside.f k (l0.drop (t324 : Int).toNat) (wrap64 (a1 - t324))).bind fun t339 => (if t339.length < 8796093022208 then (some (t339 ++ [bt336.1])) else (none)))) else (none)) else (none))) = some r := H
    have A4 := Aside0.mk A40
    clear A40
    by_cases c5 : a1 < t324
    · rw [if_pos c5] at H
      have c5b0 : decide (a1 < t324) = true := decide_eq_true c5
      clear c5
      by_cases c6 : 0 ≤ t324
      · rw [if_pos c6] at H
        have c6b0 := eq_true c6
        have c6b1 : decide (0 ≤ t324) = true := decide_eq_true c6
        clear c6
        by_cases c7 : t324 ≤ (l0.length : Int)
        · rw [if_pos c7] at H
          have c7b0 := eq_true c7
          have c7b1 : decide (t324 ≤ (l0.length : Int)) = true := decide_eq_true c7
          clear c7
          replace H := Option.bind_eq_some_iff.mp H
          obtain ⟨⟨t326, t327⟩, A80, H⟩ := H
          replace H : ((letterlockref10_beside.f k (l0.take (t324 : Int).toNat) a1).bind fun t329 => (if t329.length < 8796093022208 then (some (t329 ++ [t326])) else (none))) = some r := H
          have A8 := Aside0.mk A80
          clear A80
          have c9b0 := eq_true (of_decide_eq_true (by first | (with_reducible assumption) | assumption) : 0 ≤ t324)
          have c10b0 := eq_true (of_decide_eq_true (by first | (with_reducible assumption) | assumption) : t324 ≤ (l0.length : Int))
          replace H := Option.bind_eq_some_iff.mp H
          obtain ⟨t329, A110, H⟩ := H
          replace H : (if t329.length < 8796093022208 then (some (t329 ++ [t326])) else (none)) = some r := H
          have A11 := Aside0.mk A110
          clear A110
          by_cases c12 : t329.length < 8796093022208
          · rw [if_pos c12] at H
            have LMc12 := Aside0.mk c12
            clear c12
            obtain ⟨y332, hy332⟩ : ∃ y_ : List ByteArray, y_ = (t329 ++ [t326]) := ⟨_, rfl⟩
            replace H : (some y332) = some r := by first | (rw [hy332]; with_reducible exact H) | (have H2_ := (Option.bind_some _ _).symm.trans H; rw [hy332]; with_reducible exact H2_) | (have H2_ := (Option.bind_some _ _).symm.trans H; with_reducible exact H2_) | with_reducible exact H | (rw [hy332]; exact H) | exact H
            have Ny332 := Aside0.mk hy332
            clear hy332
            obtain rfl := Option.some.inj H
            go_enter Try.func43, Try.ntmps43
            go_wp2_with (first | ((with_reducible refine gate_callee (f := 61) rfl ?_); refine goesL_ (some 15) rfl rfl Try.func61 (by kernel_rfl) rfl #[.int .i64 (l0.length : Int)] rfl (by (try simp only [List.map_toArray, List.map_cons, List.map_nil]); first | done | rfl | (simp only [List.length_drop, List.length_take]; rfl)) ?_; (with_reducible refine (letterlockref10_first.calls k (l0.length : Int) t324 _ A4.out).mono ?_); rintro e w' ⟨rfl, ⟨nd, rfl⟩⟩; refine ⟨_, rfl, ?_⟩; obtain ⟨i013, hi013, _, hsz13, _⟩ := info_parts info9; obtain ⟨A13, hcut13, hA13, hC13⟩ := print_drop_of (P := Try.prog) Value.string (⟨#[]⟩ : ByteArray) 24 9 .i64 Try.underlying24 hi013 hsz13 A0 c0 l0 t324 (of_decide_eq_true (by first | (with_reducible assumption) | assumption)) (of_decide_eq_true (by first | (with_reducible assumption) | assumption)) HC0.out; have HR325 := Aside0.mk (Kd.C_of_reads (h1 := fun _ => rfl) (hA13 _ (Kd.reads_of_C HR0.out))); have HC325 := Aside0.mk hC13; clear hA13 hC13 hi013 hsz13) | ((with_reducible refine gate_callee (f := 40) rfl ?_); refine goesL_ (some 23) rfl rfl Try.func40 (by kernel_rfl) rfl #[.slice A13 (l0.drop (t324 : Int).toNat).length (c0 - t324.toNat)] rfl (by (try simp only [List.map_toArray, List.map_cons, List.map_nil]); first | done | (rw [show (l0.drop (t324 : Int).toNat).length = (l0.length - t324.toNat) from List.length_drop] <;> rfl) | rfl | (simp only [List.length_drop, List.length_take]; rfl)) ?_; (with_reducible refine (letterlockref10_tree.calls k _ _ (l0.drop (t324 : Int).toNat) t326 t327 _ ?side1 ?side2 A8.out).mono ?_); (case side1 => repeat (first | exact HR325.out | (with_reducible refine Kd.C_alloc ?_ _) | (with_reducible refine Kd.C_drewN ?_ _) | (with_reducible refine Kd.C_drew ?_))); (case side2 => exact HC325.out); rintro e w14 ⟨rfl, hb⟩; refine ⟨_, rfl, ?_⟩; have n0_ := Aside0.mk (below_step (by repeat (first | (with_reducible first | exact HB.out | apply below_alloc | apply pw_below_drewN | apply below_drew1) | exact HB.out)) hb); clear HB; have HB := n0_; clear n0_; (try clear hb); (try clear hb2); (try clear hk); (try clear hi); obtain ⟨i015, hi015, _, hsz15, _⟩ := info_parts info9; obtain ⟨hcut15, hA15, hC15⟩ := print_take_of (P := Try.prog) Value.string (⟨#[]⟩ : ByteArray) 24 9 .i64 Try.underlying24 hi015 hsz15 A0 c0 l0 t324 (of_decide_eq_true (by first | (with_reducible assumption) | assumption)) (of_decide_eq_true (by first | (with_reducible assumption) | assumption)) HC0.out; have HR328 := Aside0.mk (Kd.C_of_reads (h1 := fun _ => rfl) (hA15 _ (Kd.reads_of_C HR0.out))); have HC328 := Aside0.mk hC15; clear hA15 hC15 hi015 hsz15) | ((with_reducible refine gate_callee (f := 43) rfl ?_); refine goesL_ (some 30) rfl rfl Try.func43 (by kernel_rfl) rfl #[.slice A0 (l0.take (t324 : Int).toNat).length c0, .int .i64 a1] rfl (by (try simp only [List.map_toArray, List.map_cons, List.map_nil]); first | done | (rw [show (l0.take (t324 : Int).toNat).length = t324.toNat from (by rw [List.length_take]; have h_ : (t324 : Int) ≤ (l0.length : Int) := of_decide_eq_true (by first | (with_reducible assumption) | assumption); omega)] <;> rfl) | rfl | (simp only [List.length_drop, List.length_take]; rfl)) ?_; (with_reducible refine (ih k (by omega) _ _ (l0.take (t324 : Int).toNat) a1 t329 _ ?side1 ?side2 A11.out).mono ?_); (case side1 => repeat (first | exact (Kd.C_below HR328.out HB.out) | (with_reducible refine Kd.C_alloc ?_ _) | (with_reducible refine Kd.C_drewN ?_ _) | (with_reducible refine Kd.C_drew ?_))); (case side2 => exact HC328.out); rintro e w16 ⟨v330, rfl, ho0, hb⟩; refine ⟨_, rfl, ?_⟩; have n0_ := Aside0.mk (Kd.R_lower ho0 (below_size (by repeat (first | (with_reducible first | exact HB.out | apply below_alloc | apply pw_below_drewN | apply below_drew1) | exact HB.out)))); have n1_ := Aside0.mk (below_step (by repeat (first | (with_reducible first | exact HB.out | apply below_alloc | apply pw_below_drewN | apply below_drew1) | exact HB.out)) hb); clear HB; have HO331 := n0_; have HB := n1_; clear n0_ n1_; (try clear hb); (try clear hb2); (try clear hk); (try clear hi); (try clear ho0)) | ((with_reducible refine gate_builtin (b := .append) (xs := #[.tmp 30, .tmp 32]) rfl ?_); at_builtin; refine Kd.R_append Kd.string (w0 := w) w.heap.size rfl (.tmp 30) (.tmp 32) 24 9 (.string ⟨#[]⟩) 16 rfl Try.underlying24 info9 rfl (by decide) (by omega) v330 t329 t326 [.string t326] (fun _ => True) (fun _ => False) rfl rfl ?aP (fun _ hk => hk.elim) ?aF ?aO ?aB ?aS ?aL ?_; (case aP => exact rfl); (case aB => exact (by repeat (first | (with_reducible first | exact HB.out | apply below_alloc | apply pw_below_drewN | apply below_drew1) | exact HB.out))); (case aF => exact (fun _ _ => trivial)); (case aO => exact (by (with_reducible repeat (first | apply Kd.R_alloc | apply Kd.R_drewN | apply Kd.R_drew)); exact HO331.out)); (case aS => exact (below_size (by repeat (first | (with_reducible first | exact HB.out | apply below_alloc | apply pw_below_drewN | apply below_drew1) | exact HB.out)))); (case aL => have := LMc12.out; omega); intro v333 w17 ho hb hg hat; rw [← Ny332.out] at ho; have n0_ := Aside0.mk (hb); have n1_ := Aside0.mk (ho); clear HB; clear HO331; have HB := n0_; have HO334 := n1_; clear n0_ n1_; clear ho hb hg hat))
            go_ret
            exact ⟨_, by first | rfl | (simp [errW_none, errW_some] <;> rfl) | (simp [*, errW_none, errW_some] <;> rfl), by (with_reducible repeat (first | apply Kd.R_alloc | apply Kd.R_drewN | apply Kd.R_drew)); exact HO334.out, by repeat (first | (with_reducible first | exact HB.out | apply below_alloc | apply pw_below_drewN | apply below_drew1) | exact HB.out)⟩
          · rw [if_neg c12] at H
            exact absurd H (by simp)
        · rw [if_neg c7] at H
          exact absurd H (by simp)
      · rw [if_neg c6] at H
        exact absurd H (by simp)
    · rw [if_neg c5] at H
      have c5b0 : decide (a1 < t324) = false := decide_eq_false c5
      clear c5
      by_cases c18 : 0 ≤ t324
      · rw [if_pos c18] at H
        have c18b0 := eq_true c18
        have c18b1 : decide (0 ≤ t324) = true := decide_eq_true c18
        clear c18
        by_cases c19 : t324 ≤ (l0.length : Int)
        · rw [if_pos c19] at H
          have c19b0 := eq_true c19
          have c19b1 : decide (t324 ≤ (l0.length : Int)) = true := decide_eq_true c19
          clear c19
          replace H := Option.bind_eq_some_iff.mp H
          obtain ⟨⟨t336, t337⟩, A200, H⟩ := H
          replace H : ((letterlockref10_beside.f k (l0.drop (t324 : Int).toNat) (wrap64 (a1 - t324))).bind fun t339 => (if t339.length < 8796093022208 then (some (t339 ++ [t336])) else (none))) = some r := H
          have A20 := Aside0.mk A200
          clear A200
          have c21b0 := eq_true (of_decide_eq_true (by first | (with_reducible assumption) | assumption) : 0 ≤ t324)
          have c22b0 := eq_true (of_decide_eq_true (by first | (with_reducible assumption) | assumption) : t324 ≤ (l0.length : Int))
          replace H := Option.bind_eq_some_iff.mp H
          obtain ⟨t339, A230, H⟩ := H
          replace H : (if t339.length < 8796093022208 then (some (t339 ++ [t336])) else (none)) = some r := H
          have A23 := Aside0.mk A230
          clear A230
          by_cases c24 : t339.length < 8796093022208
          · rw [if_pos c24] at H
            have LMc24 := Aside0.mk c24
            clear c24
            obtain ⟨y342, hy342⟩ : ∃ y_ : List ByteArray, y_ = (t339 ++ [t336]) := ⟨_, rfl⟩
            replace H : (some y342) = some r := by first | (rw [hy342]; with_reducible exact H) | (have H2_ := (Option.bind_some _ _).symm.trans H; rw [hy342]; with_reducible exact H2_) | (have H2_ := (Option.bind_some _ _).symm.trans H; with_reducible exact H2_) | with_reducible exact H | (rw [hy342]; exact H) | exact H
            have Ny342 := Aside0.mk hy342
            clear hy342
            obtain rfl := Option.some.inj H
            go_enter Try.func43, Try.ntmps43
            go_wp2_with (first | ((with_reducible refine gate_callee (f := 61) rfl ?_); refine goesL_ (some 15) rfl rfl Try.func61 (by kernel_rfl) rfl #[.int .i64 (l0.length : Int)] rfl (by (try simp only [List.map_toArray, List.map_cons, List.map_nil]); first | done | rfl | (simp only [List.length_drop, List.length_take]; rfl)) ?_; (with_reducible refine (letterlockref10_first.calls k (l0.length : Int) t324 _ A4.out).mono ?_); rintro e w' ⟨rfl, ⟨nd, rfl⟩⟩; refine ⟨_, rfl, ?_⟩; obtain ⟨i025, hi025, _, hsz25, _⟩ := info_parts info9; obtain ⟨hcut25, hA25, hC25⟩ := print_take_of (P := Try.prog) Value.string (⟨#[]⟩ : ByteArray) 24 9 .i64 Try.underlying24 hi025 hsz25 A0 c0 l0 t324 (of_decide_eq_true (by first | (with_reducible assumption) | assumption)) (of_decide_eq_true (by first | (with_reducible assumption) | assumption)) HC0.out; have HR335 := Aside0.mk (Kd.C_of_reads (h1 := fun _ => rfl) (hA25 _ (Kd.reads_of_C HR0.out))); have HC335 := Aside0.mk hC25; clear hA25 hC25 hi025 hsz25) | ((with_reducible refine gate_callee (f := 40) rfl ?_); refine goesL_ (some 38) rfl rfl Try.func40 (by kernel_rfl) rfl #[.slice A0 (l0.take (t324 : Int).toNat).length c0] rfl (by (try simp only [List.map_toArray, List.map_cons, List.map_nil]); first | done | (rw [show (l0.take (t324 : Int).toNat).length = t324.toNat from (by rw [List.length_take]; have h_ : (t324 : Int) ≤ (l0.length : Int) := of_decide_eq_true (by first | (with_reducible assumption) | assumption); omega)] <;> rfl) | rfl | (simp only [List.length_drop, List.length_take]; rfl)) ?_; (with_reducible refine (letterlockref10_tree.calls k _ _ (l0.take (t324 : Int).toNat) t336 t337 _ ?side1 ?side2 A20.out).mono ?_); (case side1 => repeat (first | exact HR335.out | (with_reducible refine Kd.C_alloc ?_ _) | (with_reducible refine Kd.C_drewN ?_ _) | (with_reducible refine Kd.C_drew ?_))); (case side2 => exact HC335.out); rintro e w26 ⟨rfl, hb⟩; refine ⟨_, rfl, ?_⟩; have n0_ := Aside0.mk (below_step (by repeat (first | (with_reducible first | exact HB.out | apply below_alloc | apply pw_below_drewN | apply below_drew1) | exact HB.out)) hb); clear HB; have HB := n0_; clear n0_; (try clear hb); (try clear hb2); (try clear hk); (try clear hi); obtain ⟨i027, hi027, _, hsz27, _⟩ := info_parts info9; obtain ⟨A27, hcut27, hA27, hC27⟩ := print_drop_of (P := Try.prog) Value.string (⟨#[]⟩ : ByteArray) 24 9 .i64 Try.underlying24 hi027 hsz27 A0 c0 l0 t324 (of_decide_eq_true (by first | (with_reducible assumption) | assumption)) (of_decide_eq_true (by first | (with_reducible assumption) | assumption)) HC0.out; have HR338 := Aside0.mk (Kd.C_of_reads (h1 := fun _ => rfl) (hA27 _ (Kd.reads_of_C HR0.out))); have HC338 := Aside0.mk hC27; clear hA27 hC27 hi027 hsz27) | ((with_reducible refine gate_callee (f := 43) rfl ?_); refine goesL_ (some 47) rfl rfl Try.func43 (by kernel_rfl) rfl #[.slice A27 (l0.drop (t324 : Int).toNat).length (c0 - t324.toNat), .int .i64 (wrap64 (a1 - t324))] rfl (by (try simp only [List.map_toArray, List.map_cons, List.map_nil]); first | done | (rw [show (l0.drop (t324 : Int).toNat).length = (l0.length - t324.toNat) from List.length_drop] <;> rfl) | rfl | (simp only [List.length_drop, List.length_take]; rfl)) ?_; (with_reducible refine (ih k (by omega) _ _ (l0.drop (t324 : Int).toNat) (wrap64 (a1 - t324)) t339 _ ?side1 ?side2 A23.out).mono ?_); (case side1 => repeat (first | exact (Kd.C_below HR338.out HB.out) | (with_reducible refine Kd.C_alloc ?_ _) | (with_reducible refine Kd.C_drewN ?_ _) | (with_reducible refine Kd.C_drew ?_))); (case side2 => exact HC338.out); rintro e w28 ⟨v340, rfl, ho0, hb⟩; refine ⟨_, rfl, ?_⟩; have n0_ := Aside0.mk (Kd.R_lower ho0 (below_size (by repeat (first | (with_reducible first | exact HB.out | apply below_alloc | apply pw_below_drewN | apply below_drew1) | exact HB.out)))); have n1_ := Aside0.mk (below_step (by repeat (first | (with_reducible first | exact HB.out | apply below_alloc | apply pw_below_drewN | apply below_drew1) | exact HB.out)) hb); clear HB; have HO341 := n0_; have HB := n1_; clear n0_ n1_; (try clear hb); (try clear hb2); (try clear hk); (try clear hi); (try clear ho0)) | ((with_reducible refine gate_builtin (b := .append) (xs := #[.tmp 47, .tmp 49]) rfl ?_); at_builtin; refine Kd.R_append Kd.string (w0 := w) w.heap.size rfl (.tmp 47) (.tmp 49) 24 9 (.string ⟨#[]⟩) 16 rfl Try.underlying24 info9 rfl (by decide) (by omega) v340 t339 t336 [.string t336] (fun _ => True) (fun _ => False) rfl rfl ?aP (fun _ hk => hk.elim) ?aF ?aO ?aB ?aS ?aL ?_; (case aP => exact rfl); (case aB => exact (by repeat (first | (with_reducible first | exact HB.out | apply below_alloc | apply pw_below_drewN | apply below_drew1) | exact HB.out))); (case aF => exact (fun _ _ => trivial)); (case aO => exact (by (with_reducible repeat (first | apply Kd.R_alloc | apply Kd.R_drewN | apply Kd.R_drew)); exact HO341.out)); (case aS => exact (below_size (by repeat (first | (with_reducible first | exact HB.out | apply below_alloc | apply pw_below_drewN | apply below_drew1) | exact HB.out)))); (case aL => have := LMc24.out; omega); intro v343 w29 ho hb hg hat; rw [← Ny342.out] at ho; have n0_ := Aside0.mk (hb); have n1_ := Aside0.mk (ho); clear HB; clear HO341; have HB := n0_; have HO344 := n1_; clear n0_ n1_; clear ho hb hg hat))
            go_ret
            exact ⟨_, by first | rfl | (simp [errW_none, errW_some] <;> rfl) | (simp [*, errW_none, errW_some] <;> rfl), by (with_reducible repeat (first | apply Kd.R_alloc | apply Kd.R_drewN | apply Kd.R_drew)); exact HO344.out, by repeat (first | (with_reducible first | exact HB.out | apply below_alloc | apply pw_below_drewN | apply below_drew1) | exact HB.out)⟩
          · rw [if_neg c24] at H
            exact absurd H (by simp)
        · rw [if_neg c19] at H
          exact absurd H (by simp)
      · rw [if_neg c18] at H
        exact absurd H (by simp)

/-! ### letterlockref10_Proof: function 22 -/
def letterlockref10_Proof.f (k : Nat) (l0 : List ByteArray) (a1 : Int) : Option (List ByteArray × Int) := (letterlockref10_Root.f k l0).bind fun bt345 => (if bt345.2 = 0 then (if a1 < 0 then (some (([] : List ByteArray), 1)) else (if a1 ≥ (l0.length : Int) then (some (([] : List ByteArray), 1)) else ((letterlockref10_beside.f k l0 a1).bind fun t347 => (some (t347, 0))))) else (some (([] : List ByteArray), bt345.2)))
theorem letterlockref10_Proof.mono : ∀ a0 a1 k, LeO (letterlockref10_Proof.f k a0 a1) (letterlockref10_Proof.f (k + 1) a0 a1) := by
  intro a0 a1 k
  unfold letterlockref10_Proof.f
  repeat' first
      | (with_reducible exact letterlockref10_Root.mono _ _)
      | (with_reducible exact letterlockref10_beside.mono _ _ _)
      | (with_reducible exact LeO.refl _)
      | (with_reducible exact LeO.none _)
      | (with_reducible refine LeO.ite ?_ ?_)
      | (with_reducible refine LeO.bind ?_ (fun _ => ?_))
      | exact letterlockref10_Root.mono _ _
      | exact letterlockref10_beside.mono _ _ _
      | exact LeO.none _
      | refine LeO.ite ?_ ?_
      | refine LeO.bind ?_ (fun _ => ?_)
set_option maxHeartbeats 8000000 in
set_option maxRecDepth 100000 in
theorem letterlockref10_Proof.calls (k : Nat) (A0 : Option Addr) (c0 : Nat) (l0 : List ByteArray) (a1 : Int) (r1 : List ByteArray) (r2 : Int) (w : World) (hr0 : Kd.C Kd.string w A0 l0.length l0) (hc0 : l0.length ≤ c0) (h : letterlockref10_Proof.f k l0 a1 = some (r1, r2)) :
    Calls Try.prog 22 #[.slice A0 l0.length c0, .int .i64 a1] w fun e w' => ∃ v0_ : Value, e = .returned (.tuple #[v0_, .int .i64 r2]) ∧ Kd.R Kd.string 9 w' w.heap.size (fun _ => True) v0_ r1 ∧ Below w.heap.size w w' := by
  have HR0 := Aside0.mk hr0
  have HC0 := Aside0.mk hc0
  clear hr0 hc0
  have HB := Aside0.mk (Below.refl w.heap.size w)
  have H : ((letterlockref10_Root.f k l0).bind fun bt345 => (if bt345.2 = 0 then (if a1 < 0 then (some (([] : List ByteArray), 1)) else (if a1 ≥ (l0.length : Int) then (some (([] : List ByteArray), 1)) else ((letterlockref10_beside.f k l0 a1).bind fun t347 => (some (t347, 0))))) else (some (([] : List ByteArray), bt345.2)))) = some (r1, r2) := h
  clear h
  replace H := Option.bind_eq_some_iff.mp H
  obtain ⟨⟨t345, t346⟩, A30, H⟩ := H
  replace H : (if t346 = 0 then (if a1 < 0 then (some (([] : List ByteArray), 1)) else (if a1 ≥ (l0.length : Int) then (some (([] : List ByteArray), 1)) else ((letterlockref10_beside.f k l0 a1).bind fun t347 => (some (t347, 0))))) else (some (([] : List ByteArray), t346))) = some (r1, r2) := H
  have A3 := Aside0.mk A30
  clear A30
  by_cases c4 : t346 = 0
  · rw [if_pos c4] at H
    have c4b0 : (t346 == 0) = true := beq_iff_eq.mpr c4
    have c4b1 : (t346 != 0) = false := bne_eq_false_iff_eq.mpr c4
    clear c4
    by_cases c5 : a1 < 0
    · rw [if_pos c5] at H
      have c5b0 : decide (a1 < 0) = true := decide_eq_true c5
      clear c5
      simp only [Option.some.injEq, Prod.mk.injEq] at H
      obtain ⟨rfl, rfl⟩ := H
      go_enter Try.func22, Try.ntmps22
      go_wp2_with (first | ((with_reducible refine gate_callee (f := 20) rfl ?_); refine goesL_ (some 10) rfl rfl Try.func20 (by kernel_rfl) rfl #[.slice A0 l0.length c0] rfl (by (try simp only [List.map_toArray, List.map_cons, List.map_nil]); first | done | rfl | (simp only [List.length_drop, List.length_take]; rfl)) ?_; (with_reducible refine (letterlockref10_Root.calls k _ _ l0 t345 t346 _ ?side1 ?side2 A3.out).mono ?_); (case side1 => repeat (first | exact HR0.out | (with_reducible refine Kd.C_alloc ?_ _) | (with_reducible refine Kd.C_drewN ?_ _) | (with_reducible refine Kd.C_drew ?_))); (case side2 => exact HC0.out); rintro e w6 ⟨rfl, hb⟩; refine ⟨_, rfl, ?_⟩; have n0_ := Aside0.mk (below_step (by repeat (first | (with_reducible first | exact HB.out | apply below_alloc | apply pw_below_drewN | apply below_drew1) | exact HB.out)) hb); clear HB; have HB := n0_; clear n0_; (try clear hb); (try clear hb2); (try clear hk); (try clear hi)))
      go_ret2
      exact ⟨_, by first | rfl | (simp [errW_none, errW_some] <;> rfl) | (simp [*, errW_none, errW_some] <;> rfl), by first | exact Kd.R_nil _ _ _ _ _ | exact Kd.N_nil _ _ _ _ _ | exact Kd.V_nil _ _ _ _ _ | exact Kd.Q_nil _ _ _ _ _ | exact Kd.S_nil _ _ _ _ _, by repeat (first | (with_reducible first | exact HB.out | apply below_alloc | apply pw_below_drewN | apply below_drew1) | exact HB.out)⟩
    · rw [if_neg c5] at H
      have c5b0 : decide (a1 < 0) = false := decide_eq_false c5
      clear c5
      by_cases c7 : a1 ≥ (l0.length : Int)
      · rw [if_pos c7] at H
        have c7b0 : decide ((l0.length : Int) ≤ a1) = true := decide_eq_true c7
        clear c7
        simp only [Option.some.injEq, Prod.mk.injEq] at H
        obtain ⟨rfl, rfl⟩ := H
        go_enter Try.func22, Try.ntmps22
        go_wp2_with (first | ((with_reducible refine gate_callee (f := 20) rfl ?_); refine goesL_ (some 10) rfl rfl Try.func20 (by kernel_rfl) rfl #[.slice A0 l0.length c0] rfl (by (try simp only [List.map_toArray, List.map_cons, List.map_nil]); first | done | rfl | (simp only [List.length_drop, List.length_take]; rfl)) ?_; (with_reducible refine (letterlockref10_Root.calls k _ _ l0 t345 t346 _ ?side1 ?side2 A3.out).mono ?_); (case side1 => repeat (first | exact HR0.out | (with_reducible refine Kd.C_alloc ?_ _) | (with_reducible refine Kd.C_drewN ?_ _) | (with_reducible refine Kd.C_drew ?_))); (case side2 => exact HC0.out); rintro e w8 ⟨rfl, hb⟩; refine ⟨_, rfl, ?_⟩; have n0_ := Aside0.mk (below_step (by repeat (first | (with_reducible first | exact HB.out | apply below_alloc | apply pw_below_drewN | apply below_drew1) | exact HB.out)) hb); clear HB; have HB := n0_; clear n0_; (try clear hb); (try clear hb2); (try clear hk); (try clear hi)))
        go_ret2
        exact ⟨_, by first | rfl | (simp [errW_none, errW_some] <;> rfl) | (simp [*, errW_none, errW_some] <;> rfl), by first | exact Kd.R_nil _ _ _ _ _ | exact Kd.N_nil _ _ _ _ _ | exact Kd.V_nil _ _ _ _ _ | exact Kd.Q_nil _ _ _ _ _ | exact Kd.S_nil _ _ _ _ _, by repeat (first | (with_reducible first | exact HB.out | apply below_alloc | apply pw_below_drewN | apply below_drew1) | exact HB.out)⟩
      · rw [if_neg c7] at H
        have c7b0 : decide ((l0.length : Int) ≤ a1) = false := decide_eq_false c7
        clear c7
        replace H := Option.bind_eq_some_iff.mp H
        obtain ⟨t347, A90, H⟩ := H
        replace H : (some (t347, 0)) = some (r1, r2) := H
        have A9 := Aside0.mk A90
        clear A90
        simp only [Option.some.injEq, Prod.mk.injEq] at H
        obtain ⟨rfl, rfl⟩ := H
        go_enter Try.func22, Try.ntmps22
        go_wp2_with (first | ((with_reducible refine gate_callee (f := 20) rfl ?_); refine goesL_ (some 10) rfl rfl Try.func20 (by kernel_rfl) rfl #[.slice A0 l0.length c0] rfl (by (try simp only [List.map_toArray, List.map_cons, List.map_nil]); first | done | rfl | (simp only [List.length_drop, List.length_take]; rfl)) ?_; (with_reducible refine (letterlockref10_Root.calls k _ _ l0 t345 t346 _ ?side1 ?side2 A3.out).mono ?_); (case side1 => repeat (first | exact HR0.out | (with_reducible refine Kd.C_alloc ?_ _) | (with_reducible refine Kd.C_drewN ?_ _) | (with_reducible refine Kd.C_drew ?_))); (case side2 => exact HC0.out); rintro e w10 ⟨rfl, hb⟩; refine ⟨_, rfl, ?_⟩; have n0_ := Aside0.mk (below_step (by repeat (first | (with_reducible first | exact HB.out | apply below_alloc | apply pw_below_drewN | apply below_drew1) | exact HB.out)) hb); clear HB; have HB := n0_; clear n0_; (try clear hb); (try clear hb2); (try clear hk); (try clear hi)) | ((with_reducible refine gate_callee (f := 43) rfl ?_); refine goesL_ (some 26) rfl rfl Try.func43 (by kernel_rfl) rfl #[.slice A0 l0.length c0, .int .i64 a1] rfl (by (try simp only [List.map_toArray, List.map_cons, List.map_nil]); first | done | rfl | (simp only [List.length_drop, List.length_take]; rfl)) ?_; (with_reducible refine (letterlockref10_beside.calls k _ _ l0 a1 t347 _ ?side1 ?side2 A9.out).mono ?_); (case side1 => repeat (first | exact (Kd.C_below HR0.out HB.out) | (with_reducible refine Kd.C_alloc ?_ _) | (with_reducible refine Kd.C_drewN ?_ _) | (with_reducible refine Kd.C_drew ?_))); (case side2 => exact HC0.out); rintro e w11 ⟨v348, rfl, ho0, hb⟩; refine ⟨_, rfl, ?_⟩; have n0_ := Aside0.mk (Kd.R_lower ho0 (below_size (by repeat (first | (with_reducible first | exact HB.out | apply below_alloc | apply pw_below_drewN | apply below_drew1) | exact HB.out)))); have n1_ := Aside0.mk (below_step (by repeat (first | (with_reducible first | exact HB.out | apply below_alloc | apply pw_below_drewN | apply below_drew1) | exact HB.out)) hb); clear HB; have HO349 := n0_; have HB := n1_; clear n0_ n1_; (try clear hb); (try clear hb2); (try clear hk); (try clear hi); (try clear ho0)))
        go_ret2
        exact ⟨_, by first | rfl | (simp [errW_none, errW_some] <;> rfl) | (simp [*, errW_none, errW_some] <;> rfl), by (with_reducible repeat (first | apply Kd.R_alloc | apply Kd.R_drewN | apply Kd.R_drew)); exact HO349.out, by repeat (first | (with_reducible first | exact HB.out | apply below_alloc | apply pw_below_drewN | apply below_drew1) | exact HB.out)⟩
  · rw [if_neg c4] at H
    have c4b0 : (t346 == 0) = false := beq_eq_false_iff_ne.mpr c4
    have c4b1 : (t346 != 0) = true := bne_iff_ne.mpr c4
    simp only [Option.some.injEq, Prod.mk.injEq] at H
    obtain ⟨rfl, rfl⟩ := H
    go_enter Try.func22, Try.ntmps22
    go_wp2_with (first | ((with_reducible refine gate_callee (f := 20) rfl ?_); refine goesL_ (some 10) rfl rfl Try.func20 (by kernel_rfl) rfl #[.slice A0 l0.length c0] rfl (by (try simp only [List.map_toArray, List.map_cons, List.map_nil]); first | done | rfl | (simp only [List.length_drop, List.length_take]; rfl)) ?_; (with_reducible refine (letterlockref10_Root.calls k _ _ l0 t345 t346 _ ?side1 ?side2 A3.out).mono ?_); (case side1 => repeat (first | exact HR0.out | (with_reducible refine Kd.C_alloc ?_ _) | (with_reducible refine Kd.C_drewN ?_ _) | (with_reducible refine Kd.C_drew ?_))); (case side2 => exact HC0.out); rintro e w12 ⟨rfl, hb⟩; refine ⟨_, rfl, ?_⟩; have n0_ := Aside0.mk (below_step (by repeat (first | (with_reducible first | exact HB.out | apply below_alloc | apply pw_below_drewN | apply below_drew1) | exact HB.out)) hb); clear HB; have HB := n0_; clear n0_; (try clear hb); (try clear hb2); (try clear hk); (try clear hi)))
    go_ret2
    exact ⟨_, by first | rfl | (simp [errW_none, errW_some] <;> rfl) | (simp [*, errW_none, errW_some] <;> rfl), by first | exact Kd.R_nil _ _ _ _ _ | exact Kd.N_nil _ _ _ _ _ | exact Kd.V_nil _ _ _ _ _ | exact Kd.Q_nil _ _ _ _ _ | exact Kd.S_nil _ _ _ _ _, by repeat (first | (with_reducible first | exact HB.out | apply below_alloc | apply pw_below_drewN | apply below_drew1) | exact HB.out)⟩

/-! ### letterlockref10_up: function 48 -/
def letterlockref10_up.f : Nat → Int → Int → ByteArray → List ByteArray → Option (ByteArray)
  | 0, _, _, _, _ => none
  | k + 1, a0, a1, a2, l3 => if a0 = 1 then (if (l3.length : Int) > 0 then (some (⟨#[]⟩ : ByteArray)) else ((letterlockref3_OfHash.f k a2).bind fun bt350 => (some bt350.1))) else (if (l3.length : Int) = 0 then (some (⟨#[]⟩ : ByteArray)) else ((letterlockref10_first.f k a0).bind fun t352 => (if a1 < t352 then (if 0 ≤ (wrap64 ((l3.length : Int) - 1)) then (if (wrap64 ((l3.length : Int) - 1)) ≤ (l3.length : Int) then ((letterlockref10_up.f k t352 a1 a2 (l3.take ((wrap64 ((l3.length : Int) - 1)) : Int).toNat)).bind fun t354 => (if (wrap64 ((l3.length : Int) - 1)) < (l3.length : Int) then ((letterlockref10_over.f k t354 (rdOf ByteArray.empty l3 (wrap64 ((l3.length : Int) - 1)))).bind fun bt356 => (some bt356.1)) else (none))) else (none)) else (none)) else (if 0 ≤ (wrap64 ((l3.length : Int) - 1)) then (if (wrap64 ((l3.length : Int) - 1)) < (l3.length : Int) then (if (wrap64 ((l3.length : Int) - 1)) ≤ (l3.length : Int) then ((letterlockref10_up.f k (wrap64 (a0 - t352)) (wrap64 (a1 - t352)) a2 (l3.take ((wrap64 ((l3.length : Int) - 1)) : Int).toNat)).bind fun t360 => ((letterlockref10_over.f k (rdOf ByteArray.empty l3 (wrap64 ((l3.length : Int) - 1))) t360).bind fun bt361 => (some bt361.1))) else (none)) else (none)) else (none)))))
theorem letterlockref10_up.mono_l : ∀ k, (∀ y0 y1 y2 y3, LeO (letterlockref10_up.f k y0 y1 y2 y3) (letterlockref10_up.f (k + 1) y0 y1 y2 y3))
  | 0 => fun _ _ _ _ r h => by simp [letterlockref10_up.f] at h
  | k + 1 => by
    have ih0 := letterlockref10_up.mono_l k
    · intro y0 y1 y2 y3
      unfold letterlockref10_up.f
      repeat' first
      | (with_reducible exact ih0 _ _ _ _)
      | (with_reducible exact letterlockref10_first.mono _ _)
      | (with_reducible exact letterlockref10_over.mono _ _ _)
      | (with_reducible exact letterlockref3_OfHash.mono _ _)
      | (with_reducible exact LeO.refl _)
      | (with_reducible exact LeO.none _)
      | (with_reducible refine LeO.ite ?_ ?_)
      | (with_reducible refine LeO.bind ?_ (fun _ => ?_))
      | exact ih0 _ _ _ _
      | exact letterlockref10_first.mono _ _
      | exact letterlockref10_over.mono _ _ _
      | exact letterlockref3_OfHash.mono _ _
      | exact LeO.none _
      | refine LeO.ite ?_ ?_
      | refine LeO.bind ?_ (fun _ => ?_)
theorem letterlockref10_up.mono : ∀ a0 a1 a2 a3 k, LeO (letterlockref10_up.f k a0 a1 a2 a3) (letterlockref10_up.f (k + 1) a0 a1 a2 a3) := by
  intro a0 a1 a2 a3 k
  have ih0 := letterlockref10_up.mono_l k
  exact ih0 a0 a1 a2 a3
set_option maxHeartbeats 8000000 in
set_option maxRecDepth 100000 in
theorem letterlockref10_up.calls (k : Nat) : ∀ (a0 : Int) (a1 : Int) (a2 : ByteArray) (A3 : Option Addr) (c3 : Nat) (l3 : List ByteArray) (r : ByteArray) (w : World) (hr3 : Kd.C Kd.string w A3 l3.length l3) (hc3 : l3.length ≤ c3) (h : letterlockref10_up.f k a0 a1 a2 l3 = some r),
    Calls Try.prog 48 #[.int .i64 a0, .int .i64 a1, .string a2, .slice A3 l3.length c3] w fun e w' => e = .returned (.string r) ∧ Below w.heap.size w w' := by
  induction k using Nat.strongRecOn with
  | _ k ih =>
  intro a0 a1 a2 A3 c3 l3 r w hr3 hc3 h
  cases k with
  | zero => exact absurd h (by simp [letterlockref10_up.f])
  | succ k =>
  simp only [letterlockref10_up.f] at h
  have HR3 := Aside0.mk hr3
  have HC3 := Aside0.mk hc3
  clear hr3 hc3
  have HB := Aside0.mk (Below.refl w.heap.size w)
  have H : (if a0 = 1 then (if (l3.length : Int) > 0 then (some (⟨#[]⟩ : ByteArray)) else ((letterlockref3_OfHash.f k a2).bind fun bt350 => (some bt350.1))) else (if (l3.length : Int) = 0 then (some (⟨#[]⟩ : ByteArray)) else ((letterlockref10_first.f k a0).bind fun t352 => (if a1 < t352 then (if 0 ≤ (wrap64 ((l3.length : Int) - 1)) then (if (wrap64 ((l3.length : Int) - 1)) ≤ (l3.length : Int) then ((letterlockref10_up.f k t352 a1 a2 (l3.take ((wrap64 ((l3.length : Int) - 1)) : Int).toNat)).bind fun t354 => (if (wrap64 ((l3.length : Int) - 1)) < (l3.length : Int) then ((letterlockref10_over.f k t354 (rdOf ByteArray.empty l3 (wrap64 ((l3.length : Int) - 1)))).bind fun bt356 => (some bt356.1)) else (none))) else (none)) else (none)) else (if 0 ≤ (wrap64 ((l3.length : Int) - 1)) then (if (wrap64 ((l3.length : Int) - 1)) < (l3.length : Int) then (if (wrap64 ((l3.length : Int) - 1)) ≤ (l3.length : Int) then ((letterlockref10_up.f k (wrap64 (a0 - t352)) (wrap64 (a1 - t352)) a2 (l3.take ((wrap64 ((l3.length : Int) - 1)) : Int).toNat)).bind fun t360 => ((letterlockref10_over.f k (rdOf ByteArray.empty l3 (wrap64 ((l3.length : Int) - 1))) t360).bind fun bt361 => (some bt361.1))) else (none)) else (none)) else (none)))))) = some r := h
  clear h
  by_cases c5 : a0 = 1
  · rw [if_pos c5] at H
    have c5b0 : (a0 == 1) = true := beq_iff_eq.mpr c5
    have c5b1 : (a0 != 1) = false := bne_eq_false_iff_eq.mpr c5
    clear c5
    by_cases c6 : (l3.length : Int) > 0
    · rw [if_pos c6] at H
      have c6b0 : decide (0 < (l3.length : Int)) = true := decide_eq_true c6
      have c6b1 : decide (0 < l3.length) = true := decide_eq_true (by omega)
      clear c6
      obtain rfl := Option.some.inj H
      go_enter Try.func48, Try.ntmps48
      go_wp2
      go_ret
      exact ⟨by first | rfl | (simp [errW_none, errW_some] <;> rfl) | (simp [*, errW_none, errW_some] <;> rfl), by repeat (first | (with_reducible first | exact HB.out | apply below_alloc | apply pw_below_drewN | apply below_drew1) | exact HB.out)⟩
    · rw [if_neg c6] at H
      have c6b0 : decide (0 < (l3.length : Int)) = false := decide_eq_false c6
      have c6b1 : decide (0 < l3.length) = false := decide_eq_false (by omega)
      clear c6
      replace H := Option.bind_eq_some_iff.mp H
      obtain ⟨⟨t350, t351⟩, A70, H⟩ := H
      replace H : (some t350) = some r := H
      have A7 := Aside0.mk A70
      clear A70
      obtain rfl := Option.some.inj H
      go_enter Try.func48, Try.ntmps48
      go_wp2_with (first | ((with_reducible refine gate_callee (f := 60) rfl ?_); refine goesL_ (some 24) rfl rfl Try.func60 (by kernel_rfl) rfl #[.string a2] rfl (by (try simp only [List.map_toArray, List.map_cons, List.map_nil]); first | done | rfl | (simp only [List.length_drop, List.length_take]; rfl)) ?_; (with_reducible refine (letterlockref3_OfHash.calls k a2 t350 t351 _ A7.out).mono ?_); rintro e w8 ⟨rfl, hb⟩; refine ⟨_, rfl, ?_⟩; have n0_ := Aside0.mk (below_step (by repeat (first | (with_reducible first | exact HB.out | apply below_alloc | apply pw_below_drewN | apply below_drew1) | exact HB.out)) hb); clear HB; have HB := n0_; clear n0_; (try clear hb); (try clear hb2); (try clear hk); (try clear hi)))
      go_ret
      exact ⟨by first | rfl | (simp [errW_none, errW_some] <;> rfl) | (simp [*, errW_none, errW_some] <;> rfl), by repeat (first | (with_reducible first | exact HB.out | apply below_alloc | apply pw_below_drewN | apply below_drew1) | exact HB.out)⟩
  · rw [if_neg c5] at H
    have c5b0 : (a0 == 1) = false := beq_eq_false_iff_ne.mpr c5
    have c5b1 : (a0 != 1) = true := bne_iff_ne.mpr c5
    by_cases c9 : (l3.length : Int) = 0
    · rw [if_pos c9] at H
      have c9b0 : ((l3.length : Int) == 0) = true := beq_iff_eq.mpr c9
      have c9b1 : ((l3.length : Int) != 0) = false := bne_eq_false_iff_eq.mpr c9
      clear c9
      obtain rfl := Option.some.inj H
      go_enter Try.func48, Try.ntmps48
      go_wp2
      go_ret
      exact ⟨by first | rfl | (simp [errW_none, errW_some] <;> rfl) | (simp [*, errW_none, errW_some] <;> rfl), by repeat (first | (with_reducible first | exact HB.out | apply below_alloc | apply pw_below_drewN | apply below_drew1) | exact HB.out)⟩
    · rw [if_neg c9] at H
      have c9b0 : ((l3.length : Int) == 0) = false := beq_eq_false_iff_ne.mpr c9
      have c9b1 : ((l3.length : Int) != 0) = true := bne_iff_ne.mpr c9
      have c9b2 : ¬ (l3 = []) := fun h_ => c9 (by rw [h_]; rfl)
      replace H := Option.bind_eq_some_iff.mp H
      obtain ⟨t352, A100, H⟩ := H
      replace H : (if a1 < t352 then (if 0 ≤ (wrap64 ((l3.length : Int) - 1)) then (if (wrap64 ((l3.length : Int) - 1)) ≤ (l3.length : Int) then ((letterlockref10_up.f k t352 a1 a2 (l3.take ((wrap64 ((l3.length : Int) - 1)) : Int).toNat)).bind fun t354 => (if (wrap64 ((l3.length : Int) - 1)) < (l3.length : Int) then ((letterlockref10_over.f k t354 (rdOf ByteArray.empty l3 (wrap64 ((l3.length : Int) - 1)))).bind fun bt356 => (some bt356.1)) else (none))) else (none)) else (none)) else (if 0 ≤ (wrap64 ((l3.length : Int) - 1)) then (if (wrap64 ((l3.length : Int) - 1)) < (l3.length : Int) then (if (wrap64 ((l3.length : Int) - 1)) ≤ (l3.length : Int) then ((letterlockref10_up.f k (wrap64 (a0 - t352)) (wrap64 (a1 - t352)) a2 (l3.take ((wrap64 ((l3.length : Int) - 1)) : Int).toNat)).bind fun t360 => ((letterlockref10_over.f k (rdOf ByteArray.empty l3 (wrap64 ((l3.length : Int) - 1))) t360).bind fun bt361 => (some bt361.1))) else (none)) else (none)) else (none))) = some r := H
      have A10 := Aside0.mk A100
      clear A100
      by_cases c11 : a1 < t352
      · rw [if_pos c11] at H
        have c11b0 : decide (a1 < t352) = true := decide_eq_true c11
        clear c11
        obtain ⟨ji12, hji12⟩ : ∃ j_ : Int, (wrap64 ((l3.length : Int) - 1)) = j_ := ⟨_, rfl⟩
        replace H : (if 0 ≤ (ji12) then (if (ji12) ≤ (l3.length : Int) then ((letterlockref10_up.f k t352 a1 a2 (l3.take ((ji12) : Int).toNat)).bind fun t354 => (if (ji12) < (l3.length : Int) then ((letterlockref10_over.f k t354 (rdOf ByteArray.empty l3 (ji12))).bind fun bt356 => (some bt356.1)) else (none))) else (none)) else (none)) = some r := by first | (rw [hji12] at H; exact H) | (simp only [hji12] at H ⊢; exact H)
        (try rw [hji12] at A10)
        have hji12w : (IntKind.i64.wrap ((l3.length : Int) - 1)) = ji12 := (i64_w _).trans hji12
        by_cases c13 : 0 ≤ (ji12)
        · rw [if_pos c13] at H
          have c13b0 := eq_true c13
          have c13b1 : decide (0 ≤ (ji12)) = true := decide_eq_true c13
          clear c13
          by_cases c14 : (ji12) ≤ (l3.length : Int)
          · rw [if_pos c14] at H
            have c14b0 := eq_true c14
            have c14b1 : decide ((ji12) ≤ (l3.length : Int)) = true := decide_eq_true c14
            clear c14
            replace H := Option.bind_eq_some_iff.mp H
            obtain ⟨t354, A150, H⟩ := H
            replace H : (if (ji12) < (l3.length : Int) then ((letterlockref10_over.f k t354 (rdOf ByteArray.empty l3 (ji12))).bind fun bt356 => (some bt356.1)) else (none)) = some r := H
            have A15 := Aside0.mk A150
            clear A150
            by_cases c16 : (ji12) < (l3.length : Int)
            · rw [if_pos c16] at H
              have c16b0 : decide ((ji12) < (l3.length : Int)) = true := decide_eq_true c16
              clear c16
              replace H := Option.bind_eq_some_iff.mp H
              obtain ⟨⟨t356, t357⟩, A170, H⟩ := H
              replace H : (some t356) = some r := H
              have A17 := Aside0.mk A170
              clear A170
              obtain rfl := Option.some.inj H
              go_enter Try.func48, Try.ntmps48
              go_wp2_with (first | ((with_reducible refine gate_callee (f := 61) rfl ?_); refine goesL_ (some 35) rfl rfl Try.func61 (by kernel_rfl) rfl #[.int .i64 a0] rfl (by (try simp only [List.map_toArray, List.map_cons, List.map_nil]); first | done | rfl | (simp only [List.length_drop, List.length_take]; rfl)) ?_; (with_reducible refine (letterlockref10_first.calls k a0 t352 _ A10.out).mono ?_); rintro e w' ⟨rfl, ⟨nd, rfl⟩⟩; refine ⟨_, rfl, ?_⟩; obtain ⟨i018, hi018, _, hsz18, _⟩ := info_parts info9; obtain ⟨hcut18, hA18, hC18⟩ := print_take_of (P := Try.prog) Value.string (⟨#[]⟩ : ByteArray) 24 9 .i64 Try.underlying24 hi018 hsz18 A3 c3 l3 (ji12) (of_decide_eq_true (by first | (with_reducible assumption) | assumption)) (of_decide_eq_true (by first | (with_reducible assumption) | assumption)) HC3.out; have HR353 := Aside0.mk (Kd.C_of_reads (h1 := fun _ => rfl) (hA18 _ (Kd.reads_of_C HR3.out))); have HC353 := Aside0.mk hC18; clear hA18 hC18 hi018 hsz18) | ((with_reducible refine gate_callee (f := 48) rfl ?_); refine goesL_ (some 45) rfl rfl Try.func48 (by kernel_rfl) rfl #[.int .i64 t352, .int .i64 a1, .string a2, .slice A3 (l3.take ((ji12) : Int).toNat).length c3] rfl (by (try simp only [List.map_toArray, List.map_cons, List.map_nil]); first | done | (rw [show (l3.take ((ji12) : Int).toNat).length = (ji12).toNat from (by rw [List.length_take]; have h_ : ((ji12) : Int) ≤ (l3.length : Int) := of_decide_eq_true (by first | (with_reducible assumption) | assumption); omega)] <;> rfl) | (simp only [hji12]; rfl) | rfl | (simp only [List.length_drop, List.length_take]; rfl)) ?_; (with_reducible refine (ih k (by omega) t352 a1 a2 _ _ (l3.take ((ji12) : Int).toNat) t354 _ ?side1 ?side2 A15.out).mono ?_); (case side1 => repeat (first | exact HR353.out | (with_reducible refine Kd.C_alloc ?_ _) | (with_reducible refine Kd.C_drewN ?_ _) | (with_reducible refine Kd.C_drew ?_))); (case side2 => exact HC353.out); rintro e w19 ⟨rfl, hb⟩; refine ⟨_, rfl, ?_⟩; have n0_ := Aside0.mk (below_step (by repeat (first | (with_reducible first | exact HB.out | apply below_alloc | apply pw_below_drewN | apply below_drew1) | exact HB.out)) hb); clear HB; have HB := n0_; clear n0_; (try clear hb); (try clear hb2); (try clear hk); (try clear hi); have p355 : 0 ≤ ((ji12) : Int) := of_decide_eq_true (by first | (with_reducible assumption) | assumption); have q355 : (ji12) < (l3.length : Int) := of_decide_eq_true (by first | (with_reducible assumption) | assumption); obtain ⟨ad355, e355, hx355_0⟩ := Kd.at_string HR3.out (ji12) p355 q355; cases e355; replace hx355_0 := (HB.out.cell (World.block_lt_of_cell? w _ hx355_0)).trans hx355_0; replace p355 := eq_true p355; replace q355 := eq_true q355) | ((with_reducible refine gate_callee (f := 62) rfl ?_); refine goesL_ (some 68) rfl rfl Try.func62 (by kernel_rfl) rfl #[.string t354, .string (rdOf ByteArray.empty l3 (ji12))] rfl (by (try simp only [List.map_toArray, List.map_cons, List.map_nil]); first | done | (simp only [hji12]; rfl) | rfl | (simp only [List.length_drop, List.length_take]; rfl)) ?_; (with_reducible refine (letterlockref10_over.calls k t354 (rdOf ByteArray.empty l3 (ji12)) t356 t357 _ A17.out).mono ?_); rintro e w20 ⟨rfl, hb⟩; refine ⟨_, rfl, ?_⟩; have n0_ := Aside0.mk (below_step (by repeat (first | (with_reducible first | exact HB.out | apply below_alloc | apply pw_below_drewN | apply below_drew1) | exact HB.out)) hb); clear HB; have HB := n0_; clear n0_; (try clear hb); (try clear hb2); (try clear hk); (try clear hi)))
              go_ret
              exact ⟨by first | rfl | (simp [errW_none, errW_some] <;> rfl) | (simp only [← hji12]; first | rfl | (simp [errW_none, errW_some] <;> rfl)) | (simp [*, errW_none, errW_some] <;> rfl), by repeat (first | (with_reducible first | exact HB.out | apply below_alloc | apply pw_below_drewN | apply below_drew1) | exact HB.out)⟩
            · rw [if_neg c16] at H
              exact absurd H (by simp)
          · rw [if_neg c14] at H
            exact absurd H (by simp)
        · rw [if_neg c13] at H
          exact absurd H (by simp)
      · rw [if_neg c11] at H
        have c11b0 : decide (a1 < t352) = false := decide_eq_false c11
        clear c11
        obtain ⟨ji21, hji21⟩ : ∃ j_ : Int, (wrap64 ((l3.length : Int) - 1)) = j_ := ⟨_, rfl⟩
        replace H : (if 0 ≤ (ji21) then (if (ji21) < (l3.length : Int) then (if (ji21) ≤ (l3.length : Int) then ((letterlockref10_up.f k (wrap64 (a0 - t352)) (wrap64 (a1 - t352)) a2 (l3.take ((ji21) : Int).toNat)).bind fun t360 => ((letterlockref10_over.f k (rdOf ByteArray.empty l3 (ji21)) t360).bind fun bt361 => (some bt361.1))) else (none)) else (none)) else (none)) = some r := by first | (rw [hji21] at H; exact H) | (simp only [hji21] at H ⊢; exact H)
        (try rw [hji21] at A10)
        have hji21w : (IntKind.i64.wrap ((l3.length : Int) - 1)) = ji21 := (i64_w _).trans hji21
        by_cases c22 : 0 ≤ (ji21)
        · rw [if_pos c22] at H
          have c22b0 : decide (0 ≤ (ji21)) = true := decide_eq_true c22
          clear c22
          by_cases c23 : (ji21) < (l3.length : Int)
          · rw [if_pos c23] at H
            have c23b0 : decide ((ji21) < (l3.length : Int)) = true := decide_eq_true c23
            clear c23
            have c24b0 := eq_true (of_decide_eq_true (by first | (with_reducible assumption) | assumption) : 0 ≤ (ji21))
            by_cases c25 : (ji21) ≤ (l3.length : Int)
            · rw [if_pos c25] at H
              have c25b0 := eq_true c25
              have c25b1 : decide ((ji21) ≤ (l3.length : Int)) = true := decide_eq_true c25
              clear c25
              replace H := Option.bind_eq_some_iff.mp H
              obtain ⟨t360, A260, H⟩ := H
              replace H : ((letterlockref10_over.f k (rdOf ByteArray.empty l3 (ji21)) t360).bind fun bt361 => (some bt361.1)) = some r := H
              have A26 := Aside0.mk A260
              clear A260
              replace H := Option.bind_eq_some_iff.mp H
              obtain ⟨⟨t361, t362⟩, A270, H⟩ := H
              replace H : (some t361) = some r := H
              have A27 := Aside0.mk A270
              clear A270
              obtain rfl := Option.some.inj H
              go_enter Try.func48, Try.ntmps48
              go_wp2_with (first | ((with_reducible refine gate_callee (f := 61) rfl ?_); refine goesL_ (some 35) rfl rfl Try.func61 (by kernel_rfl) rfl #[.int .i64 a0] rfl (by (try simp only [List.map_toArray, List.map_cons, List.map_nil]); first | done | rfl | (simp only [List.length_drop, List.length_take]; rfl)) ?_; (with_reducible refine (letterlockref10_first.calls k a0 t352 _ A10.out).mono ?_); rintro e w' ⟨rfl, ⟨nd, rfl⟩⟩; refine ⟨_, rfl, ?_⟩; have p358 : 0 ≤ ((ji21) : Int) := of_decide_eq_true (by first | (with_reducible assumption) | assumption); have q358 : (ji21) < (l3.length : Int) := of_decide_eq_true (by first | (with_reducible assumption) | assumption); obtain ⟨ad358, e358, hx358_0⟩ := Kd.at_string HR3.out (ji21) p358 q358; cases e358; replace p358 := eq_true p358; replace q358 := eq_true q358; obtain ⟨i028, hi028, _, hsz28, _⟩ := info_parts info9; obtain ⟨hcut28, hA28, hC28⟩ := print_take_of (P := Try.prog) Value.string (⟨#[]⟩ : ByteArray) 24 9 .i64 Try.underlying24 hi028 hsz28 (some ad358) c3 l3 (ji21) (of_decide_eq_true (by first | (with_reducible assumption) | assumption)) (of_decide_eq_true (by first | (with_reducible assumption) | assumption)) HC3.out; have HR359 := Aside0.mk (Kd.C_of_reads (h1 := fun _ => rfl) (hA28 _ (Kd.reads_of_C HR3.out))); have HC359 := Aside0.mk hC28; clear hA28 hC28 hi028 hsz28) | ((with_reducible refine gate_callee (f := 48) rfl ?_); refine goesL_ (some 64) rfl rfl Try.func48 (by kernel_rfl) rfl #[.int .i64 (wrap64 (a0 - t352)), .int .i64 (wrap64 (a1 - t352)), .string a2, .slice (some ad358) (l3.take ((ji21) : Int).toNat).length c3] rfl (by (try simp only [List.map_toArray, List.map_cons, List.map_nil]); first | done | (rw [show (l3.take ((ji21) : Int).toNat).length = (ji21).toNat from (by rw [List.length_take]; have h_ : ((ji21) : Int) ≤ (l3.length : Int) := of_decide_eq_true (by first | (with_reducible assumption) | assumption); omega)] <;> rfl) | (simp only [hji21]; rfl) | rfl | (simp only [List.length_drop, List.length_take]; rfl)) ?_; (with_reducible refine (ih k (by omega) (wrap64 (a0 - t352)) (wrap64 (a1 - t352)) a2 _ _ (l3.take ((ji21) : Int).toNat) t360 _ ?side1 ?side2 A26.out).mono ?_); (case side1 => repeat (first | exact HR359.out | (with_reducible refine Kd.C_alloc ?_ _) | (with_reducible refine Kd.C_drewN ?_ _) | (with_reducible refine Kd.C_drew ?_))); (case side2 => exact HC359.out); rintro e w29 ⟨rfl, hb⟩; refine ⟨_, rfl, ?_⟩; have n0_ := Aside0.mk (below_step (by repeat (first | (with_reducible first | exact HB.out | apply below_alloc | apply pw_below_drewN | apply below_drew1) | exact HB.out)) hb); clear HB; have HB := n0_; clear n0_; (try clear hb); (try clear hb2); (try clear hk); (try clear hi)) | ((with_reducible refine gate_callee (f := 62) rfl ?_); refine goesL_ (some 68) rfl rfl Try.func62 (by kernel_rfl) rfl #[.string (rdOf ByteArray.empty l3 (ji21)), .string t360] rfl (by (try simp only [List.map_toArray, List.map_cons, List.map_nil]); first | done | (simp only [hji21]; rfl) | rfl | (simp only [List.length_drop, List.length_take]; rfl)) ?_; (with_reducible refine (letterlockref10_over.calls k (rdOf ByteArray.empty l3 (ji21)) t360 t361 t362 _ A27.out).mono ?_); rintro e w30 ⟨rfl, hb⟩; refine ⟨_, rfl, ?_⟩; have n0_ := Aside0.mk (below_step (by repeat (first | (with_reducible first | exact HB.out | apply below_alloc | apply pw_below_drewN | apply below_drew1) | exact HB.out)) hb); clear HB; have HB := n0_; clear n0_; (try clear hb); (try clear hb2); (try clear hk); (try clear hi)))
              go_ret
              exact ⟨by first | rfl | (simp [errW_none, errW_some] <;> rfl) | (simp only [← hji21]; first | rfl | (simp [errW_none, errW_some] <;> rfl)) | (simp [*, errW_none, errW_some] <;> rfl), by repeat (first | (with_reducible first | exact HB.out | apply below_alloc | apply pw_below_drewN | apply below_drew1) | exact HB.out)⟩
            · rw [if_neg c25] at H
              exact absurd H (by simp)
          · rw [if_neg c23] at H
            exact absurd H (by simp)
        · rw [if_neg c22] at H
          exact absurd H (by simp)

/-! ### letterlockref10_Verify: function 24 -/
mutual
def letterlockref10_Verify.j0 : Nat → ByteArray → Int → Int → ByteArray → List ByteArray → Bool → Option (Bool)
  | 0, _, _, _, _, _, _ => none
  | k + 1, x0, x1, x2, x3, x4, x36 => if x36 = true then (some false) else (letterlockref10_Verify.l0 k x0 x1 x2 x3 x4 0)
def letterlockref10_Verify.l0 : Nat → ByteArray → Int → Int → ByteArray → List ByteArray → Int → Option (Bool)
  | 0, _, _, _, _, _, _ => none
  | k + 1, x0, x1, x2, x3, x4, x11 => if x11 < (x4.length : Int) then (if 0 ≤ x11 then ((letterlockref3_Right.f k (rdOf ByteArray.empty x4 x11)).bind fun t366 => (if t366 = true then (letterlockref10_Verify.l0 k x0 x1 x2 x3 x4 (wrap64 (x11 + 1))) else (some false))) else (none)) else ((letterlockref10_up.f k x1 x2 x3 x4).bind fun t367 => (some (t367.toList == x0.toList)))
end
def letterlockref10_Verify.f (k : Nat) (a0 : ByteArray) (a1 : Int) (a2 : Int) (a3 : ByteArray) (l4 : List ByteArray) : Option (Bool) := if a1 < 1 then (letterlockref10_Verify.j0 k a0 a1 a2 a3 l4 true) else (if a1 > 8 then (letterlockref10_Verify.j0 k a0 a1 a2 a3 l4 true) else (if a2 < 0 then (letterlockref10_Verify.j0 k a0 a1 a2 a3 l4 true) else (if a2 ≥ a1 then (letterlockref10_Verify.j0 k a0 a1 a2 a3 l4 true) else ((letterlockref10_leaf.f k a3).bind fun t363 => (if t363 = true then ((letterlockref3_Right.f k a0).bind fun t364 => (letterlockref10_Verify.j0 k a0 a1 a2 a3 l4 (!t364))) else (letterlockref10_Verify.j0 k a0 a1 a2 a3 l4 true))))))
theorem letterlockref10_Verify.mono_l : ∀ k, (∀ y0 y1 y2 y3 y4 y5, LeO (letterlockref10_Verify.j0 k y0 y1 y2 y3 y4 y5) (letterlockref10_Verify.j0 (k + 1) y0 y1 y2 y3 y4 y5)) ∧ (∀ y0 y1 y2 y3 y4 y5, LeO (letterlockref10_Verify.l0 k y0 y1 y2 y3 y4 y5) (letterlockref10_Verify.l0 (k + 1) y0 y1 y2 y3 y4 y5))
  | 0 => ⟨fun _ _ _ _ _ _ r h => by simp [letterlockref10_Verify.j0] at h, fun _ _ _ _ _ _ r h => by simp [letterlockref10_Verify.l0] at h⟩
  | k + 1 => by
    obtain ⟨ih0, ih1⟩ := letterlockref10_Verify.mono_l k
    refine ⟨?_, ?_⟩
    · intro y0 y1 y2 y3 y4 y5
      unfold letterlockref10_Verify.j0
      repeat' first
      | (with_reducible exact ih0 _ _ _ _ _ _)
      | (with_reducible exact ih1 _ _ _ _ _ _)
      | (with_reducible exact letterlockref10_leaf.mono _ _)
      | (with_reducible exact letterlockref10_up.mono _ _ _ _ _)
      | (with_reducible exact letterlockref3_Right.mono _ _)
      | (with_reducible exact LeO.refl _)
      | (with_reducible exact LeO.none _)
      | (with_reducible refine LeO.ite ?_ ?_)
      | (with_reducible refine LeO.bind ?_ (fun _ => ?_))
      | exact ih0 _ _ _ _ _ _
      | exact ih1 _ _ _ _ _ _
      | exact letterlockref10_leaf.mono _ _
      | exact letterlockref10_up.mono _ _ _ _ _
      | exact letterlockref3_Right.mono _ _
      | exact LeO.none _
      | refine LeO.ite ?_ ?_
      | refine LeO.bind ?_ (fun _ => ?_)
    · intro y0 y1 y2 y3 y4 y5
      unfold letterlockref10_Verify.l0
      repeat' first
      | (with_reducible exact ih0 _ _ _ _ _ _)
      | (with_reducible exact ih1 _ _ _ _ _ _)
      | (with_reducible exact letterlockref10_leaf.mono _ _)
      | (with_reducible exact letterlockref10_up.mono _ _ _ _ _)
      | (with_reducible exact letterlockref3_Right.mono _ _)
      | (with_reducible exact LeO.refl _)
      | (with_reducible exact LeO.none _)
      | (with_reducible refine LeO.ite ?_ ?_)
      | (with_reducible refine LeO.bind ?_ (fun _ => ?_))
      | exact ih0 _ _ _ _ _ _
      | exact ih1 _ _ _ _ _ _
      | exact letterlockref10_leaf.mono _ _
      | exact letterlockref10_up.mono _ _ _ _ _
      | exact letterlockref3_Right.mono _ _
      | exact LeO.none _
      | refine LeO.ite ?_ ?_
      | refine LeO.bind ?_ (fun _ => ?_)
theorem letterlockref10_Verify.mono : ∀ a0 a1 a2 a3 a4 k, LeO (letterlockref10_Verify.f k a0 a1 a2 a3 a4) (letterlockref10_Verify.f (k + 1) a0 a1 a2 a3 a4) := by
  intro a0 a1 a2 a3 a4 k
  obtain ⟨ih0, ih1⟩ := letterlockref10_Verify.mono_l k
  unfold letterlockref10_Verify.f
  repeat' first
      | (with_reducible exact ih0 _ _ _ _ _ _)
      | (with_reducible exact ih1 _ _ _ _ _ _)
      | (with_reducible exact letterlockref10_leaf.mono _ _)
      | (with_reducible exact letterlockref10_up.mono _ _ _ _ _)
      | (with_reducible exact letterlockref3_Right.mono _ _)
      | (with_reducible exact LeO.refl _)
      | (with_reducible exact LeO.none _)
      | (with_reducible refine LeO.ite ?_ ?_)
      | (with_reducible refine LeO.bind ?_ (fun _ => ?_))
      | exact ih0 _ _ _ _ _ _
      | exact ih1 _ _ _ _ _ _
      | exact letterlockref10_leaf.mono _ _
      | exact letterlockref10_up.mono _ _ _ _ _
      | exact letterlockref3_Right.mono _ _
      | exact LeO.none _
      | refine LeO.ite ?_ ?_
      | refine LeO.bind ?_ (fun _ => ?_)
set_option maxHeartbeats 8000000 in
set_option maxRecDepth 100000 in
theorem letterlockref10_Verify.calls (k : Nat) (a0 : ByteArray) (a1 : Int) (a2 : Int) (a3 : ByteArray) (A4 : Option Addr) (c4 : Nat) (l4 : List ByteArray) (r : Bool) (w : World) (hr4 : Kd.C Kd.string w A4 l4.length l4) (hc4 : l4.length ≤ c4) (h : letterlockref10_Verify.f k a0 a1 a2 a3 l4 = some r) :
    Calls Try.prog 24 #[.string a0, .int .i64 a1, .int .i64 a2, .string a3, .slice A4 l4.length c4] w fun e w' => e = .returned (.bool r) ∧ Below w.heap.size w w' := by
  have HR4 := Aside0.mk hr4
  have HC4 := Aside0.mk hc4
  clear hr4 hc4
  have HB := Aside0.mk (Below.refl w.heap.size w)
  have H : (if a1 < 1 then (letterlockref10_Verify.j0 k a0 a1 a2 a3 l4 true) else (if a1 > 8 then (letterlockref10_Verify.j0 k a0 a1 a2 a3 l4 true) else (if a2 < 0 then (letterlockref10_Verify.j0 k a0 a1 a2 a3 l4 true) else (if a2 ≥ a1 then (letterlockref10_Verify.j0 k a0 a1 a2 a3 l4 true) else ((letterlockref10_leaf.f k a3).bind fun t363 => (if t363 = true then ((letterlockref3_Right.f k a0).bind fun t364 => (letterlockref10_Verify.j0 k a0 a1 a2 a3 l4 (!t364))) else (letterlockref10_Verify.j0 k a0 a1 a2 a3 l4 true))))))) = some r := h
  clear h
  have HC6 := Aside0.mk H
  clear H
  go_enter Try.func24, Try.ntmps24
  go_upto_region 1 with (fail)
  go_cut [36] (fun v36 wc => ∃ (kq : Nat) (x36_5 : Bool), v36 = .bool x36_5 ∧ Aside0 (letterlockref10_Verify.j0 kq a0 a1 a2 a3 l4 x36_5 = some r) ∧ Aside0 (kq ≤ k) ∧ Aside0 (Below w.heap.size w wc))
  case first =>
    have H := HC6.out
    clear HC6
    by_cases c7 : a1 < 1
    · rw [if_pos c7] at H
      have c7b0 : decide (a1 < 1) = true := decide_eq_true c7
      clear c7
      (first | rw [c7b0] | (simp only [i64_w, i32_w]; rw [c7b0]) | skip)
      have H' := Aside0.mk H
      clear H
      go_wp2
      go_meet
      case rel => exact ⟨_, (true), (by first | rfl | (simp; done) | (simp [*]; done) | (simp; exact isEmpty_ne _)), H', ⟨by first | omega | exact Nat.le_refl _⟩, ⟨by repeat (first | (with_reducible first | exact HB.out | apply below_alloc | apply pw_below_drewN | apply below_drew1) | exact HB.out)⟩⟩
    · rw [if_neg c7] at H
      have c7b0 : decide (a1 < 1) = false := decide_eq_false c7
      clear c7
      (first | rw [c7b0] | (simp only [i64_w, i32_w]; rw [c7b0]) | skip)
      by_cases c8 : a1 > 8
      · rw [if_pos c8] at H
        have c8b0 : decide (8 < a1) = true := decide_eq_true c8
        clear c8
        have H' := Aside0.mk H
        clear H
        go_wp2
        go_meet
        case rel => exact ⟨_, (true), (by first | rfl | (simp; done) | (simp [*]; done) | (simp; exact isEmpty_ne _)), H', ⟨by first | omega | exact Nat.le_refl _⟩, ⟨by repeat (first | (with_reducible first | exact HB.out | apply below_alloc | apply pw_below_drewN | apply below_drew1) | exact HB.out)⟩⟩
      · rw [if_neg c8] at H
        have c8b0 : decide (8 < a1) = false := decide_eq_false c8
        clear c8
        by_cases c9 : a2 < 0
        · rw [if_pos c9] at H
          have c9b0 : decide (a2 < 0) = true := decide_eq_true c9
          clear c9
          have H' := Aside0.mk H
          clear H
          go_wp2
          go_meet
          case rel => exact ⟨_, (true), (by first | rfl | (simp; done) | (simp [*]; done) | (simp; exact isEmpty_ne _)), H', ⟨by first | omega | exact Nat.le_refl _⟩, ⟨by repeat (first | (with_reducible first | exact HB.out | apply below_alloc | apply pw_below_drewN | apply below_drew1) | exact HB.out)⟩⟩
        · rw [if_neg c9] at H
          have c9b0 : decide (a2 < 0) = false := decide_eq_false c9
          clear c9
          by_cases c10 : a2 ≥ a1
          · rw [if_pos c10] at H
            have c10b0 : decide (a1 ≤ a2) = true := decide_eq_true c10
            clear c10
            have H' := Aside0.mk H
            clear H
            go_wp2
            go_meet
            case rel => exact ⟨_, (true), (by first | rfl | (simp; done) | (simp [*]; done) | (simp; exact isEmpty_ne _)), H', ⟨by first | omega | exact Nat.le_refl _⟩, ⟨by repeat (first | (with_reducible first | exact HB.out | apply below_alloc | apply pw_below_drewN | apply below_drew1) | exact HB.out)⟩⟩
          · rw [if_neg c10] at H
            have c10b0 : decide (a1 ≤ a2) = false := decide_eq_false c10
            clear c10
            replace H := Option.bind_eq_some_iff.mp H
            obtain ⟨t363, A110, H⟩ := H
            replace H : (if t363 = true then ((letterlockref3_Right.f k a0).bind fun t364 => (letterlockref10_Verify.j0 k a0 a1 a2 a3 l4 (!t364))) else (letterlockref10_Verify.j0 k a0 a1 a2 a3 l4 true)) = some r := H
            have A11 := Aside0.mk A110
            clear A110
            by_cases c12 : t363 = true
            · subst c12
              have H1 : ((letterlockref3_Right.f k a0).bind fun t364 => (letterlockref10_Verify.j0 k a0 a1 a2 a3 l4 (!t364))) = some r := by rw [if_pos rfl] at H; exact H
              clear H
              have H := H1
              clear H1
              replace H := Option.bind_eq_some_iff.mp H
              obtain ⟨t364, A130, H⟩ := H
              replace H : (letterlockref10_Verify.j0 k a0 a1 a2 a3 l4 (!t364)) = some r := H
              have A13 := Aside0.mk A130
              clear A130
              have H' := Aside0.mk H
              clear H
              go_wp2_with (first | (go_at_call 39; (with_reducible refine (letterlockref10_leaf.calls k a3 true _ A11.out).mono ?_); rintro e w14 ⟨rfl, hb⟩; have n0_ := Aside0.mk (below_step (by repeat (first | (with_reducible first | exact HB.out | apply below_alloc | apply pw_below_drewN | apply below_drew1) | exact HB.out)) hb); clear HB; have HB := n0_; clear n0_; (try clear hb); (try clear hb2); (try clear hk); (try clear hi)) | (go_at_call 47; (with_reducible refine (letterlockref3_Right.calls k a0 t364 _ A13.out).mono ?_); rintro e w15 ⟨rfl, hb⟩; have n0_ := Aside0.mk (below_step (by repeat (first | (with_reducible first | exact HB.out | apply below_alloc | apply pw_below_drewN | apply below_drew1) | exact HB.out)) hb); clear HB; have HB := n0_; clear n0_; (try clear hb); (try clear hb2); (try clear hk); (try clear hi)))
              go_meet
              case rel => exact ⟨_, (!t364), (by first | rfl | (simp; done) | (simp [*]; done) | (simp; exact isEmpty_ne _)), H', ⟨by first | omega | exact Nat.le_refl _⟩, ⟨by repeat (first | (with_reducible first | exact HB.out | apply below_alloc | apply pw_below_drewN | apply below_drew1) | exact HB.out)⟩⟩
            · replace c12 := Bool.eq_false_iff.mpr c12
              subst c12
              have H1 : (letterlockref10_Verify.j0 k a0 a1 a2 a3 l4 true) = some r := by rw [if_neg (show ¬ (false = true) by decide)] at H; exact H
              clear H
              have H := H1
              clear H1
              have H' := Aside0.mk H
              clear H
              go_wp2_with (first | (go_at_call 39; (with_reducible refine (letterlockref10_leaf.calls k a3 false _ A11.out).mono ?_); rintro e w16 ⟨rfl, hb⟩; have n0_ := Aside0.mk (below_step (by repeat (first | (with_reducible first | exact HB.out | apply below_alloc | apply pw_below_drewN | apply below_drew1) | exact HB.out)) hb); clear HB; have HB := n0_; clear n0_; (try clear hb); (try clear hb2); (try clear hk); (try clear hi)))
              go_meet
              case rel => exact ⟨_, (true), (by first | rfl | (simp; done) | (simp [*]; done) | (simp; exact isEmpty_ne _)), H', ⟨by first | omega | exact Nat.le_refl _⟩, ⟨by repeat (first | (with_reducible first | exact HB.out | apply below_alloc | apply pw_below_drewN | apply below_drew1) | exact HB.out)⟩⟩
  case rest =>
    clear HC6
    try clear c1
    try clear c2
    try clear p2
    try clear c4
    try clear c7
    try clear c7b0
    try clear c8
    try clear c8b0
    try clear c9
    try clear c9b0
    try clear c10
    try clear c10b0
    try clear c12
    obtain ⟨kq, x36_5, rfl, HA, HJ5, HB⟩ := hcut
    cases kq with
    | zero => exact absurd HA.out (by simp [letterlockref10_Verify.j0])
    | succ kj5 =>
      have H := HA.out
      clear HA
      simp only [letterlockref10_Verify.j0] at H
      by_cases c17 : x36_5 = true
      · subst c17
        have H1 : (some false) = some r := by rw [if_pos rfl] at H; exact H
        clear H
        have H := H1
        clear H1
        obtain rfl := Option.some.inj H
        go_wp2
        go_ret
        exact ⟨by first | rfl | (simp [errW_none, errW_some] <;> rfl) | (simp [*, errW_none, errW_some] <;> rfl), by repeat (first | (with_reducible first | exact HB.out | apply below_alloc | apply pw_below_drewN | apply below_drew1) | exact HB.out)⟩
      · replace c17 := Bool.eq_false_iff.mpr c17
        subst c17
        have H1 : (letterlockref10_Verify.l0 kj5 a0 a1 a2 a3 l4 0) = some r := by rw [if_neg (show ¬ (false = true) by decide)] at H; exact H
        clear H
        have H := H1
        clear H1
        have H' := Aside0.mk H
        clear H
        go_wp2
        go_loopg [11] kj5 (fun kq v11 w' => ∃ (x11_2 : Int), v11 = .int .i64 x11_2 ∧ Aside0 (letterlockref10_Verify.l0 kq a0 a1 a2 a3 l4 x11_2 = some r) ∧ Aside0 (kq ≤ kj5) ∧ Aside0 (Below w.heap.size w w'))
        case atStart => exact ⟨(0), (by first | rfl | (simp; done) | (simp [*]; done) | (simp; exact isEmpty_ne _)), H', ⟨Nat.le_refl _⟩, ⟨by repeat (first | (with_reducible first | exact HB.out | apply below_alloc | apply pw_below_drewN | apply below_drew1) | exact HB.out)⟩⟩
        case round =>
          clear H'
          try clear c1
          try clear c2
          try clear p2
          try clear c4
          try clear c7
          try clear c7b0
          try clear c8
          try clear c8b0
          try clear c9
          try clear c9b0
          try clear c10
          try clear c10b0
          try clear c12
          try clear c17
          try clear p2
          obtain ⟨x11_2, rfl, HA, HK2, HB⟩ := hrel
          cases gk with
          | zero => exact absurd HA.out (by simp [letterlockref10_Verify.l0])
          | succ k2 =>
            have H := HA.out
            clear HA
            simp only [letterlockref10_Verify.l0] at H
            by_cases c18 : x11_2 < (l4.length : Int)
            · rw [if_pos c18] at H
              have c18b0 : decide (x11_2 < (l4.length : Int)) = true := decide_eq_true c18
              clear c18
              by_cases c19 : 0 ≤ x11_2
              · rw [if_pos c19] at H
                have c19b0 : decide (0 ≤ x11_2) = true := decide_eq_true c19
                clear c19
                replace H := Option.bind_eq_some_iff.mp H
                obtain ⟨t366, A200, H⟩ := H
                replace H : (if t366 = true then (letterlockref10_Verify.l0 k2 a0 a1 a2 a3 l4 (wrap64 (x11_2 + 1))) else (some false)) = some r := H
                have A20 := Aside0.mk A200
                clear A200
                by_cases c21 : t366 = true
                · subst c21
                  have H1 : (letterlockref10_Verify.l0 k2 a0 a1 a2 a3 l4 (wrap64 (x11_2 + 1))) = some r := by rw [if_pos rfl] at H; exact H
                  clear H
                  have H := H1
                  clear H1
                  have H' := Aside0.mk H
                  clear H
                  have p365 : 0 ≤ (x11_2 : Int) := of_decide_eq_true (by first | (with_reducible assumption) | assumption)
                  have q365 : x11_2 < (l4.length : Int) := of_decide_eq_true (by first | (with_reducible assumption) | assumption)
                  obtain ⟨ad365, e365, hx365_0⟩ := Kd.at_string HR4.out x11_2 p365 q365
                  cases e365
                  replace hx365_0 := (HB.out.cell (World.block_lt_of_cell? w _ hx365_0)).trans hx365_0
                  replace p365 := eq_true p365
                  replace q365 := eq_true q365
                  go_wp2_with (first | ((with_reducible refine gate_callee (f := 47) rfl ?_); refine goesL_ (some 47) rfl rfl Try.func47 (by kernel_rfl) rfl #[.string (rdOf ByteArray.empty l4 x11_2)] rfl (by (try simp only [List.map_toArray, List.map_cons, List.map_nil]); first | done | rfl | (simp only [List.length_drop, List.length_take]; rfl)) ?_; (with_reducible refine (letterlockref3_Right.calls k2 (rdOf ByteArray.empty l4 x11_2) true _ A20.out).mono ?_); rintro e w22 ⟨rfl, hb⟩; refine ⟨_, rfl, ?_⟩; have n0_ := Aside0.mk (below_step (by repeat (first | (with_reducible first | exact HB.out | apply below_alloc | apply pw_below_drewN | apply below_drew1) | exact HB.out)) hb); clear HB; have HB := n0_; clear n0_; (try clear hb); (try clear hb2); (try clear hk); (try clear hi)))
                  go_roundg k2
                  case measure => have := HJ5.out; have := HK2.out; omega
                  case rel => exact ⟨(wrap64 (x11_2 + 1)), (by first | rfl | (simp; done) | (simp [*]; done) | (simp; exact isEmpty_ne _)), H', ⟨by have := HJ5.out; have := HK2.out; omega⟩, ⟨by repeat (first | (with_reducible first | exact HB.out | apply below_alloc | apply pw_below_drewN | apply below_drew1) | exact HB.out)⟩⟩
                · replace c21 := Bool.eq_false_iff.mpr c21
                  subst c21
                  have H1 : (some false) = some r := by rw [if_neg (show ¬ (false = true) by decide)] at H; exact H
                  clear H
                  have H := H1
                  clear H1
                  obtain rfl := Option.some.inj H
                  have p365 : 0 ≤ (x11_2 : Int) := of_decide_eq_true (by first | (with_reducible assumption) | assumption)
                  have q365 : x11_2 < (l4.length : Int) := of_decide_eq_true (by first | (with_reducible assumption) | assumption)
                  obtain ⟨ad365, e365, hx365_0⟩ := Kd.at_string HR4.out x11_2 p365 q365
                  cases e365
                  replace hx365_0 := (HB.out.cell (World.block_lt_of_cell? w _ hx365_0)).trans hx365_0
                  replace p365 := eq_true p365
                  replace q365 := eq_true q365
                  go_wp2_with (first | ((with_reducible refine gate_callee (f := 47) rfl ?_); refine goesL_ (some 47) rfl rfl Try.func47 (by kernel_rfl) rfl #[.string (rdOf ByteArray.empty l4 x11_2)] rfl (by (try simp only [List.map_toArray, List.map_cons, List.map_nil]); first | done | rfl | (simp only [List.length_drop, List.length_take]; rfl)) ?_; (with_reducible refine (letterlockref3_Right.calls k2 (rdOf ByteArray.empty l4 x11_2) false _ A20.out).mono ?_); rintro e w23 ⟨rfl, hb⟩; refine ⟨_, rfl, ?_⟩; have n0_ := Aside0.mk (below_step (by repeat (first | (with_reducible first | exact HB.out | apply below_alloc | apply pw_below_drewN | apply below_drew1) | exact HB.out)) hb); clear HB; have HB := n0_; clear n0_; (try clear hb); (try clear hb2); (try clear hk); (try clear hi)))
                  go_ret
                  exact ⟨by first | rfl | (simp [errW_none, errW_some] <;> rfl) | (simp [*, errW_none, errW_some] <;> rfl), by repeat (first | (with_reducible first | exact HB.out | apply below_alloc | apply pw_below_drewN | apply below_drew1) | exact HB.out)⟩
              · rw [if_neg c19] at H
                exact absurd H (by simp)
            · rw [if_neg c18] at H
              have c18b0 : decide (x11_2 < (l4.length : Int)) = false := decide_eq_false c18
              clear c18
              replace H := Option.bind_eq_some_iff.mp H
              obtain ⟨t367, A240, H⟩ := H
              replace H : (some (t367.toList == a0.toList)) = some r := H
              have A24 := Aside0.mk A240
              clear A240
              obtain rfl := Option.some.inj H
              go_wp2_with (first | ((with_reducible refine gate_callee (f := 48) rfl ?_); refine goesL_ (some 53) rfl rfl Try.func48 (by kernel_rfl) rfl #[.int .i64 a1, .int .i64 a2, .string a3, .slice A4 l4.length c4] rfl (by (try simp only [List.map_toArray, List.map_cons, List.map_nil]); first | done | rfl | (simp only [List.length_drop, List.length_take]; rfl)) ?_; (with_reducible refine (letterlockref10_up.calls k2 a1 a2 a3 _ _ l4 t367 _ ?side1 ?side2 A24.out).mono ?_); (case side1 => repeat (first | exact (Kd.C_below HR4.out HB.out) | (with_reducible refine Kd.C_alloc ?_ _) | (with_reducible refine Kd.C_drewN ?_ _) | (with_reducible refine Kd.C_drew ?_))); (case side2 => exact HC4.out); rintro e w25 ⟨rfl, hb⟩; refine ⟨_, rfl, ?_⟩; have n0_ := Aside0.mk (below_step (by repeat (first | (with_reducible first | exact HB.out | apply below_alloc | apply pw_below_drewN | apply below_drew1) | exact HB.out)) hb); clear HB; have HB := n0_; clear n0_; (try clear hb); (try clear hb2); (try clear hk); (try clear hi)))
              go_ret
              exact ⟨by first | rfl | (simp [errW_none, errW_some] <;> rfl) | (simp [*, errW_none, errW_some] <;> rfl), by repeat (first | (with_reducible first | exact HB.out | apply below_alloc | apply pw_below_drewN | apply below_drew1) | exact HB.out)⟩

end Go.Proofs.Ytbbcklpenafefaa.P
