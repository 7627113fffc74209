/- Printed for this claim by wip/myprint.py out of the translation: Lean functions with the answers of the Go functions, and proofs that the Go code comes to them. Lean checks it. -/
import Derived.Test.YtbbcklpenafefaaG0
import Derived.Test.YtbbcklpenafefaaGLaw10
import Derived.Test.YtbbcklpenafefaaGTerm
import Derived.Test.YtbbcklpenafefaaXTree
namespace Go.Proofs.Ytbbcklpenafefaa.P
open Go.RowKit Go.Proofs.YtbbcklpenafefaaW.PrintWords Go.Proofs.YtbbcklpenafefaaW.PrintLast Go.Proofs.YtbbcklpenafefaaW.PrintMore
attribute [local go_sem] max2_int min2_int max_two min_two max_three min_three max_four min_four   -- for this text's walks alone
set_option linter.unusedVariables false
set_option linter.unusedSimpArgs false

/-! ### letterlocklaw10_TreeShape: function 4 -/
mutual
def letterlocklaw10_TreeShape.j0 : Nat → Bool → List ByteArray → Bool → Option (Bool)
  | 0, _, _, _ => none
  | k + 1, x3, x4, x27 => if x27 = true then (some x3) else ((tree_Root.f k x4).bind fun bt263 => (if bt263.2 = 0 then (if (x4.length : Int) = 1 then (if 0 < (x4.length : Int) then ((term_OfHash.f (rdOf ByteArray.empty x4 0)).bind fun bt266 => (if bt266.2 = 0 then (some (bt263.1.toList == bt266.1.toList)) else (some false))) else (none)) else (letterlocklaw10_TreeShape.l0 k x4 bt263.1 1)) else (some false)))
def letterlocklaw10_TreeShape.l0 : Nat → List ByteArray → ByteArray → Int → Option (Bool)
  | 0, _, _, _ => none
  | k + 1, x4, x5, x9 => if (wrap64 (2 * x9)) < (x4.length : Int) then (letterlocklaw10_TreeShape.l0 k x4 x5 (wrap64 (2 * x9))) else (if 0 ≤ x9 then (if x9 ≤ (x4.length : Int) then ((tree_Root.f k (x4.take (x9 : Int).toNat)).bind fun bt272 => ((tree_Root.f k (x4.drop (x9 : Int).toNat)).bind fun bt278 => ((term_OfPair.f bt272.1 bt278.1).bind fun bt280 => ((term_OfHash.f bt280.1).bind fun bt282 => (if bt272.2 = 0 then (if bt278.2 = 0 then (if bt280.2 = 0 then (if bt282.2 = 0 then (some (x5.toList == bt282.1.toList)) else (some false)) else (some false)) else (some false)) else (some false)))))) else (none)) else (none))
end
def letterlocklaw10_TreeShape.f (k : Nat) (l0 : List Int) : Option (Bool) := (letterlocklaw10_shown.f k).bind fun t259 => ((letterlocklaw10_row.f k l0).bind fun t260 => (if t259 = true then (letterlocklaw10_TreeShape.j0 k t259 t260 ((t260.length : Int) == 0)) else (letterlocklaw10_TreeShape.j0 k t259 t260 true)))
theorem letterlocklaw10_TreeShape.mono_l : ∀ k, (∀ y0 y1 y2, LeO (letterlocklaw10_TreeShape.j0 k y0 y1 y2) (letterlocklaw10_TreeShape.j0 (k + 1) y0 y1 y2)) ∧ (∀ y0 y1 y2, LeO (letterlocklaw10_TreeShape.l0 k y0 y1 y2) (letterlocklaw10_TreeShape.l0 (k + 1) y0 y1 y2))
  | 0 => ⟨fun _ _ _ r h => by simp [letterlocklaw10_TreeShape.j0] at h, fun _ _ _ r h => by simp [letterlocklaw10_TreeShape.l0] at h⟩
  | k + 1 => by
    obtain ⟨ih0, ih1⟩ := letterlocklaw10_TreeShape.mono_l k
    refine ⟨?_, ?_⟩
    · intro y0 y1 y2
      unfold letterlocklaw10_TreeShape.j0
      repeat' first
      | (with_reducible exact ih0 _ _ _)
      | (with_reducible exact ih1 _ _ _)
      | (with_reducible exact letterlocklaw10_row.mono _ _)
      | (with_reducible exact letterlocklaw10_shown.mono _)
      | (with_reducible exact tree_Root.mono _ _)
      | (with_reducible exact LeO.refl _)
      | (with_reducible exact LeO.none _)
      | (with_reducible refine LeO.ite ?_ ?_)
      | (with_reducible refine LeO.bind ?_ (fun _ => ?_))
      | exact ih0 _ _ _
      | exact ih1 _ _ _
      | exact letterlocklaw10_row.mono _ _
      | exact letterlocklaw10_shown.mono _
      | exact tree_Root.mono _ _
      | exact LeO.none _
      | refine LeO.ite ?_ ?_
      | refine LeO.bind ?_ (fun _ => ?_)
    · intro y0 y1 y2
      unfold letterlocklaw10_TreeShape.l0
      repeat' first
      | (with_reducible exact ih0 _ _ _)
      | (with_reducible exact ih1 _ _ _)
      | (with_reducible exact letterlocklaw10_row.mono _ _)
      | (with_reducible exact letterlocklaw10_shown.mono _)
      | (with_reducible exact tree_Root.mono _ _)
      | (with_reducible exact LeO.refl _)
      | (with_reducible exact LeO.none _)
      | (with_reducible refine LeO.ite ?_ ?_)
      | (with_reducible refine LeO.bind ?_ (fun _ => ?_))
      | exact ih0 _ _ _
      | exact ih1 _ _ _
      | exact letterlocklaw10_row.mono _ _
      | exact letterlocklaw10_shown.mono _
      | exact tree_Root.mono _ _
      | exact LeO.none _
      | refine LeO.ite ?_ ?_
      | refine LeO.bind ?_ (fun _ => ?_)
theorem letterlocklaw10_TreeShape.mono : ∀ a0 k, LeO (letterlocklaw10_TreeShape.f k a0) (letterlocklaw10_TreeShape.f (k + 1) a0) := by
  intro a0 k
  obtain ⟨ih0, ih1⟩ := letterlocklaw10_TreeShape.mono_l k
  unfold letterlocklaw10_TreeShape.f
  repeat' first
      | (with_reducible exact ih0 _ _ _)
      | (with_reducible exact ih1 _ _ _)
      | (with_reducible exact letterlocklaw10_row.mono _ _)
      | (with_reducible exact letterlocklaw10_shown.mono _)
      | (with_reducible exact tree_Root.mono _ _)
      | (with_reducible exact LeO.refl _)
      | (with_reducible exact LeO.none _)
      | (with_reducible refine LeO.ite ?_ ?_)
      | (with_reducible refine LeO.bind ?_ (fun _ => ?_))
      | exact ih0 _ _ _
      | exact ih1 _ _ _
      | exact letterlocklaw10_row.mono _ _
      | exact letterlocklaw10_shown.mono _
      | exact tree_Root.mono _ _
      | exact LeO.none _
      | refine LeO.ite ?_ ?_
      | refine LeO.bind ?_ (fun _ => ?_)
set_option maxHeartbeats 8000000 in
set_option maxRecDepth 100000 in
theorem letterlocklaw10_TreeShape.calls (k : Nat) (A0 : Option Addr) (c0 : Nat) (l0 : List Int) (r : Bool) (w : World) (hr0 : Kd.C (Kd.int .i64) w A0 l0.length l0) (hc0 : l0.length ≤ c0) (h : letterlocklaw10_TreeShape.f k l0 = some r) :
    Calls Try.prog 4 #[.slice A0 l0.length c0] w fun e w' => e = .returned (.bool r) ∧ Below w.heap.size w w' := by
  have HR0 := Aside0.mk hr0
  have HC0 := Aside0.mk hc0
  clear hr0 hc0
  have HB := Aside0.mk (Below.refl w.heap.size w)
  have H : ((letterlocklaw10_shown.f k).bind fun t259 => ((letterlocklaw10_row.f k l0).bind fun t260 => (if t259 = true then (letterlocklaw10_TreeShape.j0 k t259 t260 ((t260.length : Int) == 0)) else (letterlocklaw10_TreeShape.j0 k t259 t260 true)))) = some r := h
  clear h
  replace H := Option.bind_eq_some_iff.mp H
  obtain ⟨t259, A20, H⟩ := H
  replace H : ((letterlocklaw10_row.f k l0).bind fun t260 => (if t259 = true then (letterlocklaw10_TreeShape.j0 k t259 t260 ((t260.length : Int) == 0)) else (letterlocklaw10_TreeShape.j0 k t259 t260 true))) = some r := H
  have A2 := Aside0.mk A20
  clear A20
  replace H := Option.bind_eq_some_iff.mp H
  obtain ⟨t260, A30, H⟩ := H
  replace H : (if t259 = true then (letterlocklaw10_TreeShape.j0 k t259 t260 ((t260.length : Int) == 0)) else (letterlocklaw10_TreeShape.j0 k t259 t260 true)) = some r := H
  have A3 := Aside0.mk A30
  clear A30
  have HC4 := Aside0.mk H
  clear H
  go_enter Try.func4, Try.ntmps4
  go_upto_region 3 with (first | ((with_reducible refine gate_callee (f := 9) rfl ?_); refine goesL_ (some 18) rfl rfl Try.func9 (by kernel_rfl) rfl #[] rfl (by (try simp only [List.map_toArray, List.map_cons, List.map_nil]); first | done | rfl | (simp only [List.length_drop, List.length_take]; rfl)) ?_; (with_reducible refine (letterlocklaw10_shown.calls k  t259 _ A2.out).mono ?_); rintro e w5 ⟨rfl, hb⟩; refine ⟨_, rfl, ?_⟩; have n0_ := Aside0.mk (below_step (by repeat (first | (with_reducible first | exact HB.out | apply below_alloc | apply pw_below_drewN | apply below_drew1) | exact HB.out)) hb); clear HB; have HB := n0_; clear n0_; (try clear hb); (try clear hb2); (try clear hk); (try clear hi)) | ((with_reducible refine gate_callee (f := 10) rfl ?_); refine goesL_ (some 20) rfl rfl Try.func10 (by kernel_rfl) rfl #[.slice A0 l0.length c0] rfl (by (try simp only [List.map_toArray, List.map_cons, List.map_nil]); first | done | rfl | (simp only [List.length_drop, List.length_take]; rfl)) ?_; (with_reducible refine (letterlocklaw10_row.calls k _ _ l0 t260 _ ?side1 ?side2 A3.out).mono ?_); (case side1 => repeat (first | exact (Kd.C_below HR0.out HB.out) | (with_reducible refine Kd.C_alloc ?_ _) | (with_reducible refine Kd.C_drewN ?_ _) | (with_reducible refine Kd.C_drew ?_))); (case side2 => exact HC0.out); rintro e w6 ⟨v261, rfl, ho0, hb⟩; refine ⟨_, rfl, ?_⟩; have n0_ := Aside0.mk (Kd.R_lower ho0 (below_size (by repeat (first | (with_reducible first | exact HB.out | apply below_alloc | apply pw_below_drewN | apply below_drew1) | exact HB.out)))); have n1_ := Aside0.mk (below_step (by repeat (first | (with_reducible first | exact HB.out | apply below_alloc | apply pw_below_drewN | apply below_drew1) | exact HB.out)) hb); clear HB; have HO262 := n0_; have HB := n1_; clear n0_ n1_; (try clear hb); (try clear hb2); (try clear hk); (try clear hi); (try clear ho0)))
  (try simp only [Act.put, List.setIfInBounds_toArray, List.set_cons_zero, List.set_cons_succ])
  go_cut [27] (fun v27 wc => ∃ (kq : Nat) (x27_3 : Bool), v27 = .bool x27_3 ∧ Aside0 (letterlocklaw10_TreeShape.j0 kq t259 t260 x27_3 = some r) ∧ Aside0 (kq ≤ k) ∧ Aside0 (Kd.R Kd.string 9 wc w.heap.size (fun _ => True) v261 t260) ∧ Aside0 (Below w.heap.size w wc))
  case first =>
    have H := HC4.out
    clear HC4
    by_cases c7 : t259 = true
    · subst c7
      have H1 : (letterlocklaw10_TreeShape.j0 k true t260 ((t260.length : Int) == 0)) = some r := by rw [if_pos rfl] at H; exact H
      clear H
      have H := H1
      clear H1
      have H' := Aside0.mk H
      clear H
      obtain ⟨Ao8, co8, eo8⟩ := Kd.R_slice HO262.out
      subst eo8
      go_wp2
      go_meet
      case rel => exact ⟨_, (((t260.length : Int) == 0)), (by first | rfl | (simp; done) | (simp [*]; done) | (simp; exact isEmpty_ne _)), H', ⟨by first | omega | exact Nat.le_refl _⟩, ⟨by (with_reducible repeat (first | apply Kd.R_alloc | apply Kd.R_drewN | apply Kd.R_drew)); exact HO262.out⟩, ⟨by repeat (first | (with_reducible first | exact HB.out | apply below_alloc | apply pw_below_drewN | apply below_drew1) | exact HB.out)⟩⟩
    · replace c7 := Bool.eq_false_iff.mpr c7
      subst c7
      have H1 : (letterlocklaw10_TreeShape.j0 k false t260 true) = some r := by rw [if_neg (show ¬ (false = true) by decide)] at H; exact H
      clear H
      have H := H1
      clear H1
      have H' := Aside0.mk H
      clear H
      go_wp2
      go_meet
      case rel => exact ⟨_, (true), (by first | rfl | (simp; done) | (simp [*]; done) | (simp; exact isEmpty_ne _)), H', ⟨by first | omega | exact Nat.le_refl _⟩, ⟨by (with_reducible repeat (first | apply Kd.R_alloc | apply Kd.R_drewN | apply Kd.R_drew)); exact HO262.out⟩, ⟨by repeat (first | (with_reducible first | exact HB.out | apply below_alloc | apply pw_below_drewN | apply below_drew1) | exact HB.out)⟩⟩
  case rest =>
    clear HC4
    try clear c1
    try clear p2
    try clear c4
    try clear c7
    obtain ⟨kq, x27_3, rfl, HA, HJ3, HO_4, HB⟩ := hcut
    cases kq with
    | zero => exact absurd HA.out (by simp [letterlocklaw10_TreeShape.j0])
    | succ kj3 =>
      have H := HA.out
      clear HA
      simp only [letterlocklaw10_TreeShape.j0] at H
      by_cases c9 : x27_3 = true
      · subst c9
        have H1 : (some t259) = some r := by rw [if_pos rfl] at H; exact H
        clear H
        have H := H1
        clear H1
        obtain rfl := Option.some.inj H
        go_wp2
        go_ret
        exact ⟨by first | rfl | (simp [errW_none, errW_some] <;> rfl) | (simp [*, errW_none, errW_some] <;> rfl), by repeat (first | (with_reducible first | exact HB.out | apply below_alloc | apply pw_below_drewN | apply below_drew1) | exact HB.out)⟩
      · replace c9 := Bool.eq_false_iff.mpr c9
        subst c9
        have H1 : ((tree_Root.f kj3 t260).bind fun bt263 => (if bt263.2 = 0 then (if (t260.length : Int) = 1 then (if 0 < (t260.length : Int) then ((term_OfHash.f (rdOf ByteArray.empty t260 0)).bind fun bt266 => (if bt266.2 = 0 then (some (bt263.1.toList == bt266.1.toList)) else (some false))) else (none)) else (letterlocklaw10_TreeShape.l0 kj3 t260 bt263.1 1)) else (some false))) = some r := by rw [if_neg (show ¬ (false = true) by decide)] at H; exact H
        clear H
        have H := H1
        clear H1
        replace H := Option.bind_eq_some_iff.mp H
        obtain ⟨⟨t263, t264⟩, A100, H⟩ := H
        replace H : (if t264 = 0 then (if (t260.length : Int) = 1 then (if 0 < (t260.length : Int) then ((term_OfHash.f (rdOf ByteArray.empty t260 0)).bind fun bt266 => (if bt266.2 = 0 then (some (t263.toList == bt266.1.toList)) else (some false))) else (none)) else (letterlocklaw10_TreeShape.l0 kj3 t260 t263 1)) else (some false)) = some r := H
        have A10 := Aside0.mk A100
        clear A100
        by_cases c11 : t264 = 0
        · rw [if_pos c11] at H
          have c11b0 : (t264 == 0) = true := beq_iff_eq.mpr c11
          have c11b1 : (t264 != 0) = false := bne_eq_false_iff_eq.mpr c11
          clear c11
          by_cases c12 : (t260.length : Int) = 1
          · rw [if_pos c12] at H
            have c12b0 : ((t260.length : Int) == 1) = true := beq_iff_eq.mpr c12
            have c12b1 : ((t260.length : Int) != 1) = false := bne_eq_false_iff_eq.mpr c12
            clear c12
            by_cases c13 : 0 < (t260.length : Int)
            · rw [if_pos c13] at H
              have c13b0 : decide (0 < (t260.length : Int)) = true := decide_eq_true c13
              have c13b1 : decide (0 < t260.length) = true := decide_eq_true (by omega)
              clear c13
              replace H := Option.bind_eq_some_iff.mp H
              obtain ⟨⟨t266, t267⟩, A140, H⟩ := H
              replace H : (if t267 = 0 then (some (t263.toList == t266.toList)) else (some false)) = some r := H
              have A14 := Aside0.mk A140
              clear A140
              by_cases c15 : t267 = 0
              · rw [if_pos c15] at H
                have c15b0 : (t267 == 0) = true := beq_iff_eq.mpr c15
                have c15b1 : (t267 != 0) = false := bne_eq_false_iff_eq.mpr c15
                clear c15
                obtain rfl := Option.some.inj H
                obtain ⟨Ao16, co16, eo16⟩ := Kd.R_slice HO_4.out
                subst eo16
                go_wp2_with (first | ((with_reducible refine gate_callee (f := 11) rfl ?_); refine goesL_ (some 31) rfl rfl Try.func11 (by kernel_rfl) rfl #[.slice Ao16 t260.length co16] rfl (by (try simp only [List.map_toArray, List.map_cons, List.map_nil]); first | done | rfl | (simp only [List.length_drop, List.length_take]; rfl)) ?_; (with_reducible refine (tree_Root.calls kj3 _ _ t260 t263 t264 _ ?side1 ?side2 A10.out).mono ?_); (case side1 => repeat (first | exact (Kd.R_reads' HO_4.out).2.2 | (with_reducible refine Kd.C_alloc ?_ _) | (with_reducible refine Kd.C_drewN ?_ _) | (with_reducible refine Kd.C_drew ?_))); (case side2 => exact (Kd.R_reads' HO_4.out).2.1); rintro e w17 ⟨rfl, hb⟩; refine ⟨_, rfl, ?_⟩; have n0_ := Aside0.mk (Kd.R_below (by (with_reducible repeat (first | apply Kd.R_alloc | apply Kd.R_drewN | apply Kd.R_drew)); exact HO_4.out) hb); have n1_ := Aside0.mk (below_step (by repeat (first | (with_reducible first | exact HB.out | apply below_alloc | apply pw_below_drewN | apply below_drew1) | exact HB.out)) hb); clear HO_4; clear HB; have HO_4 := n0_; have HB := n1_; clear n0_ n1_; (try clear hb); (try clear hb2); (try clear hk); (try clear hi); have p265 : 0 ≤ (0 : Int) := (by omega); have q265 : 0 < (t260.length : Int) := of_decide_eq_true (by first | (with_reducible assumption) | assumption); obtain ⟨ad265, e265, hx265_0⟩ := Kd.at_string (Kd.R_reads' HO_4.out).2.2 0 p265 q265; cases e265; have qi265 : (0 < t260.length) = True := eq_true (by omega); (try rw [show ((0 : Int)).toNat = 0 from rfl] at hx265_0); (try rw [Addr.add_zero'] at hx265_0); replace p265 := eq_true p265; replace q265 := eq_true q265) | ((with_reducible refine gate_callee (f := 16) rfl ?_); refine goesL_ (some 43) rfl rfl Try.func16 (by kernel_rfl) rfl #[.string (rdOf ByteArray.empty t260 0)] rfl (by (try simp only [List.map_toArray, List.map_cons, List.map_nil]); first | done | rfl | (simp only [List.length_drop, List.length_take]; rfl)) ?_; (with_reducible refine (term_OfHash.calls (rdOf ByteArray.empty t260 0) t266 t267 _ A14.out).mono ?_); rintro e w18 ⟨rfl, hb⟩; refine ⟨_, rfl, ?_⟩; have n0_ := Aside0.mk (Kd.R_below (by (with_reducible repeat (first | apply Kd.R_alloc | apply Kd.R_drewN | apply Kd.R_drew)); exact HO_4.out) hb); have n1_ := Aside0.mk (below_step (by repeat (first | (with_reducible first | exact HB.out | apply below_alloc | apply pw_below_drewN | apply below_drew1) | exact HB.out)) hb); clear HO_4; clear HB; have HO_4 := n0_; have HB := n1_; clear n0_ n1_; (try clear hb); (try clear hb2); (try clear hk); (try clear hi)))
                go_ret
                exact ⟨by first | rfl | (simp [errW_none, errW_some] <;> rfl) | (simp [*, errW_none, errW_some] <;> rfl), by repeat (first | (with_reducible first | exact HB.out | apply below_alloc | apply pw_below_drewN | apply below_drew1) | exact HB.out)⟩
              · rw [if_neg c15] at H
                have c15b0 : (t267 == 0) = false := beq_eq_false_iff_ne.mpr c15
                have c15b1 : (t267 != 0) = true := bne_iff_ne.mpr c15
                obtain rfl := Option.some.inj H
                obtain ⟨Ao19, co19, eo19⟩ := Kd.R_slice HO_4.out
                subst eo19
                go_wp2_with (first | ((with_reducible refine gate_callee (f := 11) rfl ?_); refine goesL_ (some 31) rfl rfl Try.func11 (by kernel_rfl) rfl #[.slice Ao19 t260.length co19] rfl (by (try simp only [List.map_toArray, List.map_cons, List.map_nil]); first | done | rfl | (simp only [List.length_drop, List.length_take]; rfl)) ?_; (with_reducible refine (tree_Root.calls kj3 _ _ t260 t263 t264 _ ?side1 ?side2 A10.out).mono ?_); (case side1 => repeat (first | exact (Kd.R_reads' HO_4.out).2.2 | (with_reducible refine Kd.C_alloc ?_ _) | (with_reducible refine Kd.C_drewN ?_ _) | (with_reducible refine Kd.C_drew ?_))); (case side2 => exact (Kd.R_reads' HO_4.out).2.1); rintro e w20 ⟨rfl, hb⟩; refine ⟨_, rfl, ?_⟩; have n0_ := Aside0.mk (Kd.R_below (by (with_reducible repeat (first | apply Kd.R_alloc | apply Kd.R_drewN | apply Kd.R_drew)); exact HO_4.out) hb); have n1_ := Aside0.mk (below_step (by repeat (first | (with_reducible first | exact HB.out | apply below_alloc | apply pw_below_drewN | apply below_drew1) | exact HB.out)) hb); clear HO_4; clear HB; have HO_4 := n0_; have HB := n1_; clear n0_ n1_; (try clear hb); (try clear hb2); (try clear hk); (try clear hi); have p265 : 0 ≤ (0 : Int) := (by omega); have q265 : 0 < (t260.length : Int) := of_decide_eq_true (by first | (with_reducible assumption) | assumption); obtain ⟨ad265, e265, hx265_0⟩ := Kd.at_string (Kd.R_reads' HO_4.out).2.2 0 p265 q265; cases e265; have qi265 : (0 < t260.length) = True := eq_true (by omega); (try rw [show ((0 : Int)).toNat = 0 from rfl] at hx265_0); (try rw [Addr.add_zero'] at hx265_0); replace p265 := eq_true p265; replace q265 := eq_true q265) | ((with_reducible refine gate_callee (f := 16) rfl ?_); refine goesL_ (some 43) rfl rfl Try.func16 (by kernel_rfl) rfl #[.string (rdOf ByteArray.empty t260 0)] rfl (by (try simp only [List.map_toArray, List.map_cons, List.map_nil]); first | done | rfl | (simp only [List.length_drop, List.length_take]; rfl)) ?_; (with_reducible refine (term_OfHash.calls (rdOf ByteArray.empty t260 0) t266 t267 _ A14.out).mono ?_); rintro e w21 ⟨rfl, hb⟩; refine ⟨_, rfl, ?_⟩; have n0_ := Aside0.mk (Kd.R_below (by (with_reducible repeat (first | apply Kd.R_alloc | apply Kd.R_drewN | apply Kd.R_drew)); exact HO_4.out) hb); have n1_ := Aside0.mk (below_step (by repeat (first | (with_reducible first | exact HB.out | apply below_alloc | apply pw_below_drewN | apply below_drew1) | exact HB.out)) hb); clear HO_4; clear HB; have HO_4 := n0_; have HB := n1_; clear n0_ n1_; (try clear hb); (try clear hb2); (try clear hk); (try clear hi)))
                go_ret
                exact ⟨by first | rfl | (simp [errW_none, errW_some] <;> rfl) | (simp [*, errW_none, errW_some] <;> rfl), by repeat (first | (with_reducible first | exact HB.out | apply below_alloc | apply pw_below_drewN | apply below_drew1) | exact HB.out)⟩
            · rw [if_neg c13] at H
              exact absurd H (by simp)
          · rw [if_neg c12] at H
            have c12b0 : ((t260.length : Int) == 1) = false := beq_eq_false_iff_ne.mpr c12
            have c12b1 : ((t260.length : Int) != 1) = true := bne_iff_ne.mpr c12
            have H' := Aside0.mk H
            clear H
            obtain ⟨Ao22, co22, eo22⟩ := Kd.R_slice HO_4.out
            subst eo22
            go_wp2_with (first | ((with_reducible refine gate_callee (f := 11) rfl ?_); refine goesL_ (some 31) rfl rfl Try.func11 (by kernel_rfl) rfl #[.slice Ao22 t260.length co22] rfl (by (try simp only [List.map_toArray, List.map_cons, List.map_nil]); first | done | rfl | (simp only [List.length_drop, List.length_take]; rfl)) ?_; (with_reducible refine (tree_Root.calls kj3 _ _ t260 t263 t264 _ ?side1 ?side2 A10.out).mono ?_); (case side1 => repeat (first | exact (Kd.R_reads' HO_4.out).2.2 | (with_reducible refine Kd.C_alloc ?_ _) | (with_reducible refine Kd.C_drewN ?_ _) | (with_reducible refine Kd.C_drew ?_))); (case side2 => exact (Kd.R_reads' HO_4.out).2.1); rintro e w23 ⟨rfl, hb⟩; refine ⟨_, rfl, ?_⟩; have n0_ := Aside0.mk (Kd.R_below (by (with_reducible repeat (first | apply Kd.R_alloc | apply Kd.R_drewN | apply Kd.R_drew)); exact HO_4.out) hb); have n1_ := Aside0.mk (below_step (by repeat (first | (with_reducible first | exact HB.out | apply below_alloc | apply pw_below_drewN | apply below_drew1) | exact HB.out)) hb); clear HO_4; clear HB; have HO_4 := n0_; have HB := n1_; clear n0_ n1_; (try clear hb); (try clear hb2); (try clear hk); (try clear hi)))
            go_loopg [9] kj3 (fun kq v9 w' => ∃ (x9_2 : Int), v9 = .int .i64 x9_2 ∧ Aside0 (letterlocklaw10_TreeShape.l0 kq t260 t263 x9_2 = some r) ∧ Aside0 (kq ≤ kj3) ∧ Aside0 (Kd.R Kd.string 9 w' w.heap.size (fun _ => True) (.slice Ao22 t260.length co22) t260) ∧ Aside0 (Below w.heap.size w w'))
            case atStart => exact ⟨(1), (by first | rfl | (simp; done) | (simp [*]; done) | (simp; exact isEmpty_ne _)), H', ⟨Nat.le_refl _⟩, ⟨by (with_reducible repeat (first | apply Kd.R_alloc | apply Kd.R_drewN | apply Kd.R_drew)); exact HO_4.out⟩, ⟨by repeat (first | (with_reducible first | exact HB.out | apply below_alloc | apply pw_below_drewN | apply below_drew1) | exact HB.out)⟩⟩
            case round =>
              clear H'
              try clear c1
              try clear p2
              try clear q2
              try clear hx2
              try clear qi2
              try clear c4
              try clear c7
              try clear c9
              try clear c10
              try clear c11
              try clear c11b0
              try clear c11b1
              try clear c12
              try clear c12b0
              try clear c12b1
              try clear c13
              try clear c13b0
              try clear c13b1
              try clear c15
              try clear c15b0
              try clear c15b1
              try clear c16
              try clear hx265_0
              try clear p2
              try clear p265
              try clear q265
              obtain ⟨x9_2, rfl, HA, HK2, HO_4, HB⟩ := hrel
              cases gk with
              | zero => exact absurd HA.out (by simp [letterlocklaw10_TreeShape.l0])
              | succ k2 =>
                have H := HA.out
                clear HA
                simp only [letterlocklaw10_TreeShape.l0] at H
                by_cases c24 : (wrap64 (2 * x9_2)) < (t260.length : Int)
                · rw [if_pos c24] at H
                  have c24b0 : decide ((wrap64 (2 * x9_2)) < (t260.length : Int)) = true := decide_eq_true c24
                  clear c24
                  have H' := Aside0.mk H
                  clear H
                  go_wp2
                  go_roundg k2
                  case measure => have := HJ3.out; have := HK2.out; omega
                  case rel => exact ⟨(wrap64 (2 * x9_2)), (by first | rfl | (simp; done) | (simp [*]; done) | (simp; exact isEmpty_ne _)), H', ⟨by have := HJ3.out; have := HK2.out; omega⟩, ⟨by (with_reducible repeat (first | apply Kd.R_alloc | apply Kd.R_drewN | apply Kd.R_drew)); exact HO_4.out⟩, ⟨by repeat (first | (with_reducible first | exact HB.out | apply below_alloc | apply pw_below_drewN | apply below_drew1) | exact HB.out)⟩⟩
                · rw [if_neg c24] at H
                  have c24b0 : decide ((wrap64 (2 * x9_2)) < (t260.length : Int)) = false := decide_eq_false c24
                  clear c24
                  by_cases c25 : 0 ≤ x9_2
                  · rw [if_pos c25] at H
                    have c25b0 := eq_true c25
                    have c25b1 : decide (0 ≤ x9_2) = true := decide_eq_true c25
                    clear c25
                    by_cases c26 : x9_2 ≤ (t260.length : Int)
                    · rw [if_pos c26] at H
                      have c26b0 := eq_true c26
                      have c26b1 : decide (x9_2 ≤ (t260.length : Int)) = true := decide_eq_true c26
                      clear c26
                      obtain ⟨y268, hy268⟩ : ∃ y_ : List ByteArray, y_ = (t260.take (x9_2 : Int).toNat) := ⟨_, rfl⟩
                      replace H : ((tree_Root.f k2 y268).bind fun bt272 => ((tree_Root.f k2 (t260.drop (x9_2 : Int).toNat)).bind fun bt278 => ((term_OfPair.f bt272.1 bt278.1).bind fun bt280 => ((term_OfHash.f bt280.1).bind fun bt282 => (if bt272.2 = 0 then (if bt278.2 = 0 then (if bt280.2 = 0 then (if bt282.2 = 0 then (some (t263.toList == bt282.1.toList)) else (some false)) else (some false)) else (some false)) else (some false)))))) = some r := by first | (rw [hy268]; with_reducible exact H) | (have H2_ := (Option.bind_some _ _).symm.trans H; rw [hy268]; with_reducible exact H2_) | (have H2_ := (Option.bind_some _ _).symm.trans H; with_reducible exact H2_) | with_reducible exact H | (rw [hy268]; exact H) | exact H
                      have Ny268 := Aside0.mk hy268
                      clear hy268
                      replace H := Option.bind_eq_some_iff.mp H
                      obtain ⟨⟨t272, t273⟩, A270, H⟩ := H
                      replace H : ((tree_Root.f k2 (t260.drop (x9_2 : Int).toNat)).bind fun bt278 => ((term_OfPair.f t272 bt278.1).bind fun bt280 => ((term_OfHash.f bt280.1).bind fun bt282 => (if t273 = 0 then (if bt278.2 = 0 then (if bt280.2 = 0 then (if bt282.2 = 0 then (some (t263.toList == bt282.1.toList)) else (some false)) else (some false)) else (some false)) else (some false))))) = some r := H
                      have A27 := Aside0.mk A270
                      clear A270
                      have c28b0 := eq_true (of_decide_eq_true (by first | (with_reducible assumption) | assumption) : 0 ≤ x9_2)
                      have c29b0 := eq_true (of_decide_eq_true (by first | (with_reducible assumption) | assumption) : x9_2 ≤ (t260.length : Int))
                      obtain ⟨y274, hy274⟩ : ∃ y_ : List ByteArray, y_ = (t260.drop (x9_2 : Int).toNat) := ⟨_, rfl⟩
                      replace H : ((tree_Root.f k2 y274).bind fun bt278 => ((term_OfPair.f t272 bt278.1).bind fun bt280 => ((term_OfHash.f bt280.1).bind fun bt282 => (if t273 = 0 then (if bt278.2 = 0 then (if bt280.2 = 0 then (if bt282.2 = 0 then (some (t263.toList == bt282.1.toList)) else (some false)) else (some false)) else (some false)) else (some false))))) = some r := by first | (rw [hy274]; with_reducible exact H) | (have H2_ := (Option.bind_some _ _).symm.trans H; rw [hy274]; with_reducible exact H2_) | (have H2_ := (Option.bind_some _ _).symm.trans H; with_reducible exact H2_) | with_reducible exact H | (rw [hy274]; exact H) | exact H
                      have Ny274 := Aside0.mk hy274
                      clear hy274
                      replace H := Option.bind_eq_some_iff.mp H
                      obtain ⟨⟨t278, t279⟩, A300, H⟩ := H
                      replace H : ((term_OfPair.f t272 t278).bind fun bt280 => ((term_OfHash.f bt280.1).bind fun bt282 => (if t273 = 0 then (if t279 = 0 then (if bt280.2 = 0 then (if bt282.2 = 0 then (some (t263.toList == bt282.1.toList)) else (some false)) else (some false)) else (some false)) else (some false)))) = some r := H
                      have A30 := Aside0.mk A300
                      clear A300
                      replace H := Option.bind_eq_some_iff.mp H
                      obtain ⟨⟨t280, t281⟩, A310, H⟩ := H
                      replace H : ((term_OfHash.f t280).bind fun bt282 => (if t273 = 0 then (if t279 = 0 then (if t281 = 0 then (if bt282.2 = 0 then (some (t263.toList == bt282.1.toList)) else (some false)) else (some false)) else (some false)) else (some false))) = some r := H
                      have A31 := Aside0.mk A310
                      clear A310
                      replace H := Option.bind_eq_some_iff.mp H
                      obtain ⟨⟨t282, t283⟩, A320, H⟩ := H
                      replace H : (if t273 = 0 then (if t279 = 0 then (if t281 = 0 then (if t283 = 0 then (some (t263.toList == t282.toList)) else (some false)) else (some false)) else (some false)) else (some false)) = some r := H
                      have A32 := Aside0.mk A320
                      clear A320
                      by_cases c33 : t273 = 0
                      · rw [if_pos c33] at H
                        have c33b0 : (t273 == 0) = true := beq_iff_eq.mpr c33
                        have c33b1 : (t273 != 0) = false := bne_eq_false_iff_eq.mpr c33
                        clear c33
                        by_cases c34 : t279 = 0
                        · rw [if_pos c34] at H
                          have c34b0 : (t279 == 0) = true := beq_iff_eq.mpr c34
                          have c34b1 : (t279 != 0) = false := bne_eq_false_iff_eq.mpr c34
                          clear c34
                          by_cases c35 : t281 = 0
                          · rw [if_pos c35] at H
                            have c35b0 : (t281 == 0) = true := beq_iff_eq.mpr c35
                            have c35b1 : (t281 != 0) = false := bne_eq_false_iff_eq.mpr c35
                            clear c35
                            by_cases c36 : t283 = 0
                            · rw [if_pos c36] at H
                              have c36b0 : (t283 == 0) = true := beq_iff_eq.mpr c36
                              have c36b1 : (t283 != 0) = false := bne_eq_false_iff_eq.mpr c36
                              clear c36
                              obtain rfl := Option.some.inj H
                              have q37 : (x9_2 : Int) ≤ ((t260.length : Int) : Int) := of_decide_eq_true (by first | (with_reducible assumption) | assumption)
                              obtain ⟨i037, hi037, _, hsz37, _⟩ := info_parts info9
                              have hroom37 : t260.length ≤ co22 := (Kd.R_reads' HO_4.out).2.1
                              have hC37 : Kd.C Kd.string _ Ao22 t260.length t260 := (Kd.R_reads' HO_4.out).2.2
                              have hcut37 := cut_to (P := Try.prog) 24 9 .i64 Try.underlying24 hi037 Ao22 t260.length co22 x9_2 (of_decide_eq_true (by first | (with_reducible assumption) | assumption)) q37 hroom37
                              have hr37 := Kd.C_take (m := (x9_2 : Int).toNat) hC37 (by omega)
                              have hy37 : y268.length = (x9_2 : Int).toNat := (by rw [Ny268.out, List.length_take]; omega)
                              rw [← Ny268.out] at hr37
                              rw [← hy37] at hcut37
                              have HR271 := Aside0.mk hr37
                              have HC271 := Aside0.mk (show y268.length ≤ co22 from by omega)
                              clear hr37 hC37 hroom37 hi037 hsz37
                              have KY37 := Aside0.mk hy37
                              clear hy37
                              have KL37 := Aside0.mk (show (x9_2 : Int).toNat ≤ t260.length from by omega)
                              replace q37 := eq_true q37
                              go_wp2_with (first | ((with_reducible refine gate_callee (f := 11) rfl ?_); refine goesL_ (some 64) rfl rfl Try.func11 (by kernel_rfl) rfl #[.slice Ao22 y268.length co22] rfl (by (try simp only [List.map_toArray, List.map_cons, List.map_nil]); first | done | rfl | (simp only [List.length_drop, List.length_take]; rfl)) ?_; (with_reducible refine (tree_Root.calls k2 _ _ y268 t272 t273 _ ?side1 ?side2 A27.out).mono ?_); (case side1 => repeat (first | exact (by repeat (first | (with_reducible exact HR271.out) | (with_reducible refine Kd.C_alloc ?_ _) | (with_reducible refine Kd.C_drewN ?_ _) | (with_reducible refine Kd.C_drew ?_) | exact HR271.out)) | (with_reducible refine Kd.C_alloc ?_ _) | (with_reducible refine Kd.C_drewN ?_ _) | (with_reducible refine Kd.C_drew ?_))); (case side2 => exact HC271.out); rintro e w38 ⟨rfl, hb⟩; refine ⟨_, rfl, ?_⟩; have n0_ := Aside0.mk (Kd.R_below (by (with_reducible repeat (first | apply Kd.R_alloc | apply Kd.R_drewN | apply Kd.R_drew)); exact HO_4.out) hb); have n1_ := Aside0.mk (Kd.C_below (by repeat (first | (with_reducible exact HR271.out) | (with_reducible refine Kd.C_alloc ?_ _) | (with_reducible refine Kd.C_drewN ?_ _) | (with_reducible refine Kd.C_drew ?_) | exact HR271.out)) hb); have n2_ := Aside0.mk (below_step (by repeat (first | (with_reducible first | exact HB.out | apply below_alloc | apply pw_below_drewN | apply below_drew1) | exact HB.out)) hb); clear HO_4; clear HR271; clear HB; have HO_4 := n0_; have HR271 := n1_; have HB := n2_; clear n0_ n1_ n2_; (try clear hb); (try clear hb2); (try clear hk); (try clear hi); have q39 : (x9_2 : Int) ≤ ((t260.length : Int) : Int) := of_decide_eq_true (by first | (with_reducible assumption) | assumption); obtain ⟨i039, hi039, _, hsz39, _⟩ := info_parts info9; have hroom39 : t260.length ≤ co22 := (Kd.R_reads' HO_4.out).2.1; have hC39 : Kd.C Kd.string _ Ao22 t260.length t260 := (Kd.R_reads' HO_4.out).2.2; have q039 : (0 : Int) ≤ (x9_2 : Int) := of_decide_eq_true (by first | (with_reducible assumption) | assumption); have hcut39 := cut_from (P := Try.prog) 24 9 .i64 Try.underlying24 hi039 1 hsz39 Ao22 t260.length co22 x9_2 q039 q39; have hr39 := Kd.C_drop (m := (x9_2 : Int).toNat) (c := co22) hC39 (by omega) hroom39; obtain ⟨A39, hA39⟩ : ∃ A1, A1 = (if co22 = (x9_2 : Int).toNat then Ao22 else (Ao22 : Option Addr).map (·.add ((x9_2 : Int).toNat * 1))) := ⟨_, rfl⟩; obtain ⟨c39, hc39⟩ : ∃ c1, c1 = co22 - (x9_2 : Int).toNat := ⟨_, rfl⟩; have hy39 : y274.length = t260.length - (x9_2 : Int).toNat := (by rw [Ny274.out, List.length_drop] <;> omega); rw [show (t260).drop (x9_2 : Int).toNat = y274 from Ny274.out.symm] at hr39; replace hr39 : Kd.C Kd.string _ A39 y274.length y274 := (by rw [hA39]; exact hr39); rw [← hy39, ← hA39, ← hc39] at hcut39; have HR277 := Aside0.mk hr39; have HC277 := Aside0.mk (show y274.length ≤ c39 from by rw [hy39, hc39]; exact Nat.sub_le_sub_right hroom39 _); clear hr39 hC39 hroom39 hi039 hsz39 hc39; have KY39 := Aside0.mk hy39; have KA39 := Aside0.mk hA39; clear hy39 hA39; have KL39 := Aside0.mk (show (x9_2 : Int).toNat ≤ t260.length from by omega); replace q39 := eq_true q39) | ((with_reducible refine gate_callee (f := 11) rfl ?_); refine goesL_ (some 71) rfl rfl Try.func11 (by kernel_rfl) rfl #[.slice A39 y274.length c39] rfl (by (try simp only [List.map_toArray, List.map_cons, List.map_nil]); first | done | rfl | (simp only [List.length_drop, List.length_take]; rfl)) ?_; (with_reducible refine (tree_Root.calls k2 _ _ y274 t278 t279 _ ?side1 ?side2 A30.out).mono ?_); (case side1 => repeat (first | exact (by repeat (first | (with_reducible exact HR277.out) | (with_reducible refine Kd.C_alloc ?_ _) | (with_reducible refine Kd.C_drewN ?_ _) | (with_reducible refine Kd.C_drew ?_) | exact HR277.out)) | (with_reducible refine Kd.C_alloc ?_ _) | (with_reducible refine Kd.C_drewN ?_ _) | (with_reducible refine Kd.C_drew ?_))); (case side2 => exact HC277.out); rintro e w40 ⟨rfl, hb⟩; refine ⟨_, rfl, ?_⟩; have n0_ := Aside0.mk (Kd.R_below (by (with_reducible repeat (first | apply Kd.R_alloc | apply Kd.R_drewN | apply Kd.R_drew)); exact HO_4.out) hb); have n1_ := Aside0.mk (Kd.C_below (by repeat (first | (with_reducible exact HR271.out) | (with_reducible refine Kd.C_alloc ?_ _) | (with_reducible refine Kd.C_drewN ?_ _) | (with_reducible refine Kd.C_drew ?_) | exact HR271.out)) hb); have n2_ := Aside0.mk (Kd.C_below (by repeat (first | (with_reducible exact HR277.out) | (with_reducible refine Kd.C_alloc ?_ _) | (with_reducible refine Kd.C_drewN ?_ _) | (with_reducible refine Kd.C_drew ?_) | exact HR277.out)) hb); have n3_ := Aside0.mk (below_step (by repeat (first | (with_reducible first | exact HB.out | apply below_alloc | apply pw_below_drewN | apply below_drew1) | exact HB.out)) hb); clear HO_4; clear HR271; clear HR277; clear HB; have HO_4 := n0_; have HR271 := n1_; have HR277 := n2_; have HB := n3_; clear n0_ n1_ n2_ n3_; (try clear hb); (try clear hb2); (try clear hk); (try clear hi)) | ((with_reducible refine gate_callee (f := 17) rfl ?_); refine goesL_ (some 77) rfl rfl Try.func17 (by kernel_rfl) rfl #[.string t272, .string t278] rfl (by (try simp only [List.map_toArray, List.map_cons, List.map_nil]); first | done | rfl | (simp only [List.length_drop, List.length_take]; rfl)) ?_; (with_reducible refine (term_OfPair.calls t272 t278 t280 t281 _ A31.out).mono ?_); rintro e w41 ⟨rfl, hb⟩; refine ⟨_, rfl, ?_⟩; have n0_ := Aside0.mk (Kd.R_below (by (with_reducible repeat (first | apply Kd.R_alloc | apply Kd.R_drewN | apply Kd.R_drew)); exact HO_4.out) hb); have n1_ := Aside0.mk (Kd.C_below (by repeat (first | (with_reducible exact HR271.out) | (with_reducible refine Kd.C_alloc ?_ _) | (with_reducible refine Kd.C_drewN ?_ _) | (with_reducible refine Kd.C_drew ?_) | exact HR271.out)) hb); have n2_ := Aside0.mk (Kd.C_below (by repeat (first | (with_reducible exact HR277.out) | (with_reducible refine Kd.C_alloc ?_ _) | (with_reducible refine Kd.C_drewN ?_ _) | (with_reducible refine Kd.C_drew ?_) | exact HR277.out)) hb); have n3_ := Aside0.mk (below_step (by repeat (first | (with_reducible first | exact HB.out | apply below_alloc | apply pw_below_drewN | apply below_drew1) | exact HB.out)) hb); clear HO_4; clear HR271; clear HR277; clear HB; have HO_4 := n0_; have HR271 := n1_; have HR277 := n2_; have HB := n3_; clear n0_ n1_ n2_ n3_; (try clear hb); (try clear hb2); (try clear hk); (try clear hi)) | ((with_reducible refine gate_callee (f := 16) rfl ?_); refine goesL_ (some 82) rfl rfl Try.func16 (by kernel_rfl) rfl #[.string t280] rfl (by (try simp only [List.map_toArray, List.map_cons, List.map_nil]); first | done | rfl | (simp only [List.length_drop, List.length_take]; rfl)) ?_; (with_reducible refine (term_OfHash.calls t280 t282 t283 _ A32.out).mono ?_); rintro e w42 ⟨rfl, hb⟩; refine ⟨_, rfl, ?_⟩; have n0_ := Aside0.mk (Kd.R_below (by (with_reducible repeat (first | apply Kd.R_alloc | apply Kd.R_drewN | apply Kd.R_drew)); exact HO_4.out) hb); have n1_ := Aside0.mk (Kd.C_below (by repeat (first | (with_reducible exact HR271.out) | (with_reducible refine Kd.C_alloc ?_ _) | (with_reducible refine Kd.C_drewN ?_ _) | (with_reducible refine Kd.C_drew ?_) | exact HR271.out)) hb); have n2_ := Aside0.mk (Kd.C_below (by repeat (first | (with_reducible exact HR277.out) | (with_reducible refine Kd.C_alloc ?_ _) | (with_reducible refine Kd.C_drewN ?_ _) | (with_reducible refine Kd.C_drew ?_) | exact HR277.out)) hb); have n3_ := Aside0.mk (below_step (by repeat (first | (with_reducible first | exact HB.out | apply below_alloc | apply pw_below_drewN | apply below_drew1) | exact HB.out)) hb); clear HO_4; clear HR271; clear HR277; clear HB; have HO_4 := n0_; have HR271 := n1_; have HR277 := n2_; have HB := n3_; clear n0_ n1_ n2_ n3_; (try clear hb); (try clear hb2); (try clear hk); (try clear hi)))
                              go_ret
                              exact ⟨by first | rfl | (simp [errW_none, errW_some] <;> rfl) | (simp [*, errW_none, errW_some] <;> rfl), by repeat (first | (with_reducible first | exact HB.out | apply below_alloc | apply pw_below_drewN | apply below_drew1) | exact HB.out)⟩
                            · rw [if_neg c36] at H
                              have c36b0 : (t283 == 0) = false := beq_eq_false_iff_ne.mpr c36
                              have c36b1 : (t283 != 0) = true := bne_iff_ne.mpr c36
                              obtain rfl := Option.some.inj H
                              have q43 : (x9_2 : Int) ≤ ((t260.length : Int) : Int) := of_decide_eq_true (by first | (with_reducible assumption) | assumption)
                              obtain ⟨i043, hi043, _, hsz43, _⟩ := info_parts info9
                              have hroom43 : t260.length ≤ co22 := (Kd.R_reads' HO_4.out).2.1
                              have hC43 : Kd.C Kd.string _ Ao22 t260.length t260 := (Kd.R_reads' HO_4.out).2.2
                              have hcut43 := cut_to (P := Try.prog) 24 9 .i64 Try.underlying24 hi043 Ao22 t260.length co22 x9_2 (of_decide_eq_true (by first | (with_reducible assumption) | assumption)) q43 hroom43
                              have hr43 := Kd.C_take (m := (x9_2 : Int).toNat) hC43 (by omega)
                              have hy43 : y268.length = (x9_2 : Int).toNat := (by rw [Ny268.out, List.length_take]; omega)
                              rw [← Ny268.out] at hr43
                              rw [← hy43] at hcut43
                              have HR271 := Aside0.mk hr43
                              have HC271 := Aside0.mk (show y268.length ≤ co22 from by omega)
                              clear hr43 hC43 hroom43 hi043 hsz43
                              have KY43 := Aside0.mk hy43
                              clear hy43
                              have KL43 := Aside0.mk (show (x9_2 : Int).toNat ≤ t260.length from by omega)
                              replace q43 := eq_true q43
                              go_wp2_with (first | ((with_reducible refine gate_callee (f := 11) rfl ?_); refine goesL_ (some 64) rfl rfl Try.func11 (by kernel_rfl) rfl #[.slice Ao22 y268.length co22] rfl (by (try simp only [List.map_toArray, List.map_cons, List.map_nil]); first | done | rfl | (simp only [List.length_drop, List.length_take]; rfl)) ?_; (with_reducible refine (tree_Root.calls k2 _ _ y268 t272 t273 _ ?side1 ?side2 A27.out).mono ?_); (case side1 => repeat (first | exact (by repeat (first | (with_reducible exact HR271.out) | (with_reducible refine Kd.C_alloc ?_ _) | (with_reducible refine Kd.C_drewN ?_ _) | (with_reducible refine Kd.C_drew ?_) | exact HR271.out)) | (with_reducible refine Kd.C_alloc ?_ _) | (with_reducible refine Kd.C_drewN ?_ _) | (with_reducible refine Kd.C_drew ?_))); (case side2 => exact HC271.out); rintro e w44 ⟨rfl, hb⟩; refine ⟨_, rfl, ?_⟩; have n0_ := Aside0.mk (Kd.R_below (by (with_reducible repeat (first | apply Kd.R_alloc | apply Kd.R_drewN | apply Kd.R_drew)); exact HO_4.out) hb); have n1_ := Aside0.mk (Kd.C_below (by repeat (first | (with_reducible exact HR271.out) | (with_reducible refine Kd.C_alloc ?_ _) | (with_reducible refine Kd.C_drewN ?_ _) | (with_reducible refine Kd.C_drew ?_) | exact HR271.out)) hb); have n2_ := Aside0.mk (below_step (by repeat (first | (with_reducible first | exact HB.out | apply below_alloc | apply pw_below_drewN | apply below_drew1) | exact HB.out)) hb); clear HO_4; clear HR271; clear HB; have HO_4 := n0_; have HR271 := n1_; have HB := n2_; clear n0_ n1_ n2_; (try clear hb); (try clear hb2); (try clear hk); (try clear hi); have q45 : (x9_2 : Int) ≤ ((t260.length : Int) : Int) := of_decide_eq_true (by first | (with_reducible assumption) | assumption); obtain ⟨i045, hi045, _, hsz45, _⟩ := info_parts info9; have hroom45 : t260.length ≤ co22 := (Kd.R_reads' HO_4.out).2.1; have hC45 : Kd.C Kd.string _ Ao22 t260.length t260 := (Kd.R_reads' HO_4.out).2.2; have q045 : (0 : Int) ≤ (x9_2 : Int) := of_decide_eq_true (by first | (with_reducible assumption) | assumption); have hcut45 := cut_from (P := Try.prog) 24 9 .i64 Try.underlying24 hi045 1 hsz45 Ao22 t260.length co22 x9_2 q045 q45; have hr45 := Kd.C_drop (m := (x9_2 : Int).toNat) (c := co22) hC45 (by omega) hroom45; obtain ⟨A45, hA45⟩ : ∃ A1, A1 = (if co22 = (x9_2 : Int).toNat then Ao22 else (Ao22 : Option Addr).map (·.add ((x9_2 : Int).toNat * 1))) := ⟨_, rfl⟩; obtain ⟨c45, hc45⟩ : ∃ c1, c1 = co22 - (x9_2 : Int).toNat := ⟨_, rfl⟩; have hy45 : y274.length = t260.length - (x9_2 : Int).toNat := (by rw [Ny274.out, List.length_drop] <;> omega); rw [show (t260).drop (x9_2 : Int).toNat = y274 from Ny274.out.symm] at hr45; replace hr45 : Kd.C Kd.string _ A45 y274.length y274 := (by rw [hA45]; exact hr45); rw [← hy45, ← hA45, ← hc45] at hcut45; have HR277 := Aside0.mk hr45; have HC277 := Aside0.mk (show y274.length ≤ c45 from by rw [hy45, hc45]; exact Nat.sub_le_sub_right hroom45 _); clear hr45 hC45 hroom45 hi045 hsz45 hc45; have KY45 := Aside0.mk hy45; have KA45 := Aside0.mk hA45; clear hy45 hA45; have KL45 := Aside0.mk (show (x9_2 : Int).toNat ≤ t260.length from by omega); replace q45 := eq_true q45) | ((with_reducible refine gate_callee (f := 11) rfl ?_); refine goesL_ (some 71) rfl rfl Try.func11 (by kernel_rfl) rfl #[.slice A45 y274.length c45] rfl (by (try simp only [List.map_toArray, List.map_cons, List.map_nil]); first | done | rfl | (simp only [List.length_drop, List.length_take]; rfl)) ?_; (with_reducible refine (tree_Root.calls k2 _ _ y274 t278 t279 _ ?side1 ?side2 A30.out).mono ?_); (case side1 => repeat (first | exact (by repeat (first | (with_reducible exact HR277.out) | (with_reducible refine Kd.C_alloc ?_ _) | (with_reducible refine Kd.C_drewN ?_ _) | (with_reducible refine Kd.C_drew ?_) | exact HR277.out)) | (with_reducible refine Kd.C_alloc ?_ _) | (with_reducible refine Kd.C_drewN ?_ _) | (with_reducible refine Kd.C_drew ?_))); (case side2 => exact HC277.out); rintro e w46 ⟨rfl, hb⟩; refine ⟨_, rfl, ?_⟩; have n0_ := Aside0.mk (Kd.R_below (by (with_reducible repeat (first | apply Kd.R_alloc | apply Kd.R_drewN | apply Kd.R_drew)); exact HO_4.out) hb); have n1_ := Aside0.mk (Kd.C_below (by repeat (first | (with_reducible exact HR271.out) | (with_reducible refine Kd.C_alloc ?_ _) | (with_reducible refine Kd.C_drewN ?_ _) | (with_reducible refine Kd.C_drew ?_) | exact HR271.out)) hb); have n2_ := Aside0.mk (Kd.C_below (by repeat (first | (with_reducible exact HR277.out) | (with_reducible refine Kd.C_alloc ?_ _) | (with_reducible refine Kd.C_drewN ?_ _) | (with_reducible refine Kd.C_drew ?_) | exact HR277.out)) hb); have n3_ := Aside0.mk (below_step (by repeat (first | (with_reducible first | exact HB.out | apply below_alloc | apply pw_below_drewN | apply below_drew1) | exact HB.out)) hb); clear HO_4; clear HR271; clear HR277; clear HB; have HO_4 := n0_; have HR271 := n1_; have HR277 := n2_; have HB := n3_; clear n0_ n1_ n2_ n3_; (try clear hb); (try clear hb2); (try clear hk); (try clear hi)) | ((with_reducible refine gate_callee (f := 17) rfl ?_); refine goesL_ (some 77) rfl rfl Try.func17 (by kernel_rfl) rfl #[.string t272, .string t278] rfl (by (try simp only [List.map_toArray, List.map_cons, List.map_nil]); first | done | rfl | (simp only [List.length_drop, List.length_take]; rfl)) ?_; (with_reducible refine (term_OfPair.calls t272 t278 t280 t281 _ A31.out).mono ?_); rintro e w47 ⟨rfl, hb⟩; refine ⟨_, rfl, ?_⟩; have n0_ := Aside0.mk (Kd.R_below (by (with_reducible repeat (first | apply Kd.R_alloc | apply Kd.R_drewN | apply Kd.R_drew)); exact HO_4.out) hb); have n1_ := Aside0.mk (Kd.C_below (by repeat (first | (with_reducible exact HR271.out) | (with_reducible refine Kd.C_alloc ?_ _) | (with_reducible refine Kd.C_drewN ?_ _) | (with_reducible refine Kd.C_drew ?_) | exact HR271.out)) hb); have n2_ := Aside0.mk (Kd.C_below (by repeat (first | (with_reducible exact HR277.out) | (with_reducible refine Kd.C_alloc ?_ _) | (with_reducible refine Kd.C_drewN ?_ _) | (with_reducible refine Kd.C_drew ?_) | exact HR277.out)) hb); have n3_ := Aside0.mk (below_step (by repeat (first | (with_reducible first | exact HB.out | apply below_alloc | apply pw_below_drewN | apply below_drew1) | exact HB.out)) hb); clear HO_4; clear HR271; clear HR277; clear HB; have HO_4 := n0_; have HR271 := n1_; have HR277 := n2_; have HB := n3_; clear n0_ n1_ n2_ n3_; (try clear hb); (try clear hb2); (try clear hk); (try clear hi)) | ((with_reducible refine gate_callee (f := 16) rfl ?_); refine goesL_ (some 82) rfl rfl Try.func16 (by kernel_rfl) rfl #[.string t280] rfl (by (try simp only [List.map_toArray, List.map_cons, List.map_nil]); first | done | rfl | (simp only [List.length_drop, List.length_take]; rfl)) ?_; (with_reducible refine (term_OfHash.calls t280 t282 t283 _ A32.out).mono ?_); rintro e w48 ⟨rfl, hb⟩; refine ⟨_, rfl, ?_⟩; have n0_ := Aside0.mk (Kd.R_below (by (with_reducible repeat (first | apply Kd.R_alloc | apply Kd.R_drewN | apply Kd.R_drew)); exact HO_4.out) hb); have n1_ := Aside0.mk (Kd.C_below (by repeat (first | (with_reducible exact HR271.out) | (with_reducible refine Kd.C_alloc ?_ _) | (with_reducible refine Kd.C_drewN ?_ _) | (with_reducible refine Kd.C_drew ?_) | exact HR271.out)) hb); have n2_ := Aside0.mk (Kd.C_below (by repeat (first | (with_reducible exact HR277.out) | (with_reducible refine Kd.C_alloc ?_ _) | (with_reducible refine Kd.C_drewN ?_ _) | (with_reducible refine Kd.C_drew ?_) | exact HR277.out)) hb); have n3_ := Aside0.mk (below_step (by repeat (first | (with_reducible first | exact HB.out | apply below_alloc | apply pw_below_drewN | apply below_drew1) | exact HB.out)) hb); clear HO_4; clear HR271; clear HR277; clear HB; have HO_4 := n0_; have HR271 := n1_; have HR277 := n2_; have HB := n3_; clear n0_ n1_ n2_ n3_; (try clear hb); (try clear hb2); (try clear hk); (try clear hi)))
                              go_ret
                              exact ⟨by first | rfl | (simp [errW_none, errW_some] <;> rfl) | (simp [*, errW_none, errW_some] <;> rfl), by repeat (first | (with_reducible first | exact HB.out | apply below_alloc | apply pw_below_drewN | apply below_drew1) | exact HB.out)⟩
                          · rw [if_neg c35] at H
                            have c35b0 : (t281 == 0) = false := beq_eq_false_iff_ne.mpr c35
                            have c35b1 : (t281 != 0) = true := bne_iff_ne.mpr c35
                            obtain rfl := Option.some.inj H
                            have q49 : (x9_2 : Int) ≤ ((t260.length : Int) : Int) := of_decide_eq_true (by first | (with_reducible assumption) | assumption)
                            obtain ⟨i049, hi049, _, hsz49, _⟩ := info_parts info9
                            have hroom49 : t260.length ≤ co22 := (Kd.R_reads' HO_4.out).2.1
                            have hC49 : Kd.C Kd.string _ Ao22 t260.length t260 := (Kd.R_reads' HO_4.out).2.2
                            have hcut49 := cut_to (P := Try.prog) 24 9 .i64 Try.underlying24 hi049 Ao22 t260.length co22 x9_2 (of_decide_eq_true (by first | (with_reducible assumption) | assumption)) q49 hroom49
                            have hr49 := Kd.C_take (m := (x9_2 : Int).toNat) hC49 (by omega)
                            have hy49 : y268.length = (x9_2 : Int).toNat := (by rw [Ny268.out, List.length_take]; omega)
                            rw [← Ny268.out] at hr49
                            rw [← hy49] at hcut49
                            have HR271 := Aside0.mk hr49
                            have HC271 := Aside0.mk (show y268.length ≤ co22 from by omega)
                            clear hr49 hC49 hroom49 hi049 hsz49
                            have KY49 := Aside0.mk hy49
                            clear hy49
                            have KL49 := Aside0.mk (show (x9_2 : Int).toNat ≤ t260.length from by omega)
                            replace q49 := eq_true q49
                            go_wp2_with (first | ((with_reducible refine gate_callee (f := 11) rfl ?_); refine goesL_ (some 64) rfl rfl Try.func11 (by kernel_rfl) rfl #[.slice Ao22 y268.length co22] rfl (by (try simp only [List.map_toArray, List.map_cons, List.map_nil]); first | done | rfl | (simp only [List.length_drop, List.length_take]; rfl)) ?_; (with_reducible refine (tree_Root.calls k2 _ _ y268 t272 t273 _ ?side1 ?side2 A27.out).mono ?_); (case side1 => repeat (first | exact (by repeat (first | (with_reducible exact HR271.out) | (with_reducible refine Kd.C_alloc ?_ _) | (with_reducible refine Kd.C_drewN ?_ _) | (with_reducible refine Kd.C_drew ?_) | exact HR271.out)) | (with_reducible refine Kd.C_alloc ?_ _) | (with_reducible refine Kd.C_drewN ?_ _) | (with_reducible refine Kd.C_drew ?_))); (case side2 => exact HC271.out); rintro e w50 ⟨rfl, hb⟩; refine ⟨_, rfl, ?_⟩; have n0_ := Aside0.mk (Kd.R_below (by (with_reducible repeat (first | apply Kd.R_alloc | apply Kd.R_drewN | apply Kd.R_drew)); exact HO_4.out) hb); have n1_ := Aside0.mk (Kd.C_below (by repeat (first | (with_reducible exact HR271.out) | (with_reducible refine Kd.C_alloc ?_ _) | (with_reducible refine Kd.C_drewN ?_ _) | (with_reducible refine Kd.C_drew ?_) | exact HR271.out)) hb); have n2_ := Aside0.mk (below_step (by repeat (first | (with_reducible first | exact HB.out | apply below_alloc | apply pw_below_drewN | apply below_drew1) | exact HB.out)) hb); clear HO_4; clear HR271; clear HB; have HO_4 := n0_; have HR271 := n1_; have HB := n2_; clear n0_ n1_ n2_; (try clear hb); (try clear hb2); (try clear hk); (try clear hi); have q51 : (x9_2 : Int) ≤ ((t260.length : Int) : Int) := of_decide_eq_true (by first | (with_reducible assumption) | assumption); obtain ⟨i051, hi051, _, hsz51, _⟩ := info_parts info9; have hroom51 : t260.length ≤ co22 := (Kd.R_reads' HO_4.out).2.1; have hC51 : Kd.C Kd.string _ Ao22 t260.length t260 := (Kd.R_reads' HO_4.out).2.2; have q051 : (0 : Int) ≤ (x9_2 : Int) := of_decide_eq_true (by first | (with_reducible assumption) | assumption); have hcut51 := cut_from (P := Try.prog) 24 9 .i64 Try.underlying24 hi051 1 hsz51 Ao22 t260.length co22 x9_2 q051 q51; have hr51 := Kd.C_drop (m := (x9_2 : Int).toNat) (c := co22) hC51 (by omega) hroom51; obtain ⟨A51, hA51⟩ : ∃ A1, A1 = (if co22 = (x9_2 : Int).toNat then Ao22 else (Ao22 : Option Addr).map (·.add ((x9_2 : Int).toNat * 1))) := ⟨_, rfl⟩; obtain ⟨c51, hc51⟩ : ∃ c1, c1 = co22 - (x9_2 : Int).toNat := ⟨_, rfl⟩; have hy51 : y274.length = t260.length - (x9_2 : Int).toNat := (by rw [Ny274.out, List.length_drop] <;> omega); rw [show (t260).drop (x9_2 : Int).toNat = y274 from Ny274.out.symm] at hr51; replace hr51 : Kd.C Kd.string _ A51 y274.length y274 := (by rw [hA51]; exact hr51); rw [← hy51, ← hA51, ← hc51] at hcut51; have HR277 := Aside0.mk hr51; have HC277 := Aside0.mk (show y274.length ≤ c51 from by rw [hy51, hc51]; exact Nat.sub_le_sub_right hroom51 _); clear hr51 hC51 hroom51 hi051 hsz51 hc51; have KY51 := Aside0.mk hy51; have KA51 := Aside0.mk hA51; clear hy51 hA51; have KL51 := Aside0.mk (show (x9_2 : Int).toNat ≤ t260.length from by omega); replace q51 := eq_true q51) | ((with_reducible refine gate_callee (f := 11) rfl ?_); refine goesL_ (some 71) rfl rfl Try.func11 (by kernel_rfl) rfl #[.slice A51 y274.length c51] rfl (by (try simp only [List.map_toArray, List.map_cons, List.map_nil]); first | done | rfl | (simp only [List.length_drop, List.length_take]; rfl)) ?_; (with_reducible refine (tree_Root.calls k2 _ _ y274 t278 t279 _ ?side1 ?side2 A30.out).mono ?_); (case side1 => repeat (first | exact (by repeat (first | (with_reducible exact HR277.out) | (with_reducible refine Kd.C_alloc ?_ _) | (with_reducible refine Kd.C_drewN ?_ _) | (with_reducible refine Kd.C_drew ?_) | exact HR277.out)) | (with_reducible refine Kd.C_alloc ?_ _) | (with_reducible refine Kd.C_drewN ?_ _) | (with_reducible refine Kd.C_drew ?_))); (case side2 => exact HC277.out); rintro e w52 ⟨rfl, hb⟩; refine ⟨_, rfl, ?_⟩; have n0_ := Aside0.mk (Kd.R_below (by (with_reducible repeat (first | apply Kd.R_alloc | apply Kd.R_drewN | apply Kd.R_drew)); exact HO_4.out) hb); have n1_ := Aside0.mk (Kd.C_below (by repeat (first | (with_reducible exact HR271.out) | (with_reducible refine Kd.C_alloc ?_ _) | (with_reducible refine Kd.C_drewN ?_ _) | (with_reducible refine Kd.C_drew ?_) | exact HR271.out)) hb); have n2_ := Aside0.mk (Kd.C_below (by repeat (first | (with_reducible exact HR277.out) | (with_reducible refine Kd.C_alloc ?_ _) | (with_reducible refine Kd.C_drewN ?_ _) | (with_reducible refine Kd.C_drew ?_) | exact HR277.out)) hb); have n3_ := Aside0.mk (below_step (by repeat (first | (with_reducible first | exact HB.out | apply below_alloc | apply pw_below_drewN | apply below_drew1) | exact HB.out)) hb); clear HO_4; clear HR271; clear HR277; clear HB; have HO_4 := n0_; have HR271 := n1_; have HR277 := n2_; have HB := n3_; clear n0_ n1_ n2_ n3_; (try clear hb); (try clear hb2); (try clear hk); (try clear hi)) | ((with_reducible refine gate_callee (f := 17) rfl ?_); refine goesL_ (some 77) rfl rfl Try.func17 (by kernel_rfl) rfl #[.string t272, .string t278] rfl (by (try simp only [List.map_toArray, List.map_cons, List.map_nil]); first | done | rfl | (simp only [List.length_drop, List.length_take]; rfl)) ?_; (with_reducible refine (term_OfPair.calls t272 t278 t280 t281 _ A31.out).mono ?_); rintro e w53 ⟨rfl, hb⟩; refine ⟨_, rfl, ?_⟩; have n0_ := Aside0.mk (Kd.R_below (by (with_reducible repeat (first | apply Kd.R_alloc | apply Kd.R_drewN | apply Kd.R_drew)); exact HO_4.out) hb); have n1_ := Aside0.mk (Kd.C_below (by repeat (first | (with_reducible exact HR271.out) | (with_reducible refine Kd.C_alloc ?_ _) | (with_reducible refine Kd.C_drewN ?_ _) | (with_reducible refine Kd.C_drew ?_) | exact HR271.out)) hb); have n2_ := Aside0.mk (Kd.C_below (by repeat (first | (with_reducible exact HR277.out) | (with_reducible refine Kd.C_alloc ?_ _) | (with_reducible refine Kd.C_drewN ?_ _) | (with_reducible refine Kd.C_drew ?_) | exact HR277.out)) hb); have n3_ := Aside0.mk (below_step (by repeat (first | (with_reducible first | exact HB.out | apply below_alloc | apply pw_below_drewN | apply below_drew1) | exact HB.out)) hb); clear HO_4; clear HR271; clear HR277; clear HB; have HO_4 := n0_; have HR271 := n1_; have HR277 := n2_; have HB := n3_; clear n0_ n1_ n2_ n3_; (try clear hb); (try clear hb2); (try clear hk); (try clear hi)) | ((with_reducible refine gate_callee (f := 16) rfl ?_); refine goesL_ (some 82) rfl rfl Try.func16 (by kernel_rfl) rfl #[.string t280] rfl (by (try simp only [List.map_toArray, List.map_cons, List.map_nil]); first | done | rfl | (simp only [List.length_drop, List.length_take]; rfl)) ?_; (with_reducible refine (term_OfHash.calls t280 t282 t283 _ A32.out).mono ?_); rintro e w54 ⟨rfl, hb⟩; refine ⟨_, rfl, ?_⟩; have n0_ := Aside0.mk (Kd.R_below (by (with_reducible repeat (first | apply Kd.R_alloc | apply Kd.R_drewN | apply Kd.R_drew)); exact HO_4.out) hb); have n1_ := Aside0.mk (Kd.C_below (by repeat (first | (with_reducible exact HR271.out) | (with_reducible refine Kd.C_alloc ?_ _) | (with_reducible refine Kd.C_drewN ?_ _) | (with_reducible refine Kd.C_drew ?_) | exact HR271.out)) hb); have n2_ := Aside0.mk (Kd.C_below (by repeat (first | (with_reducible exact HR277.out) | (with_reducible refine Kd.C_alloc ?_ _) | (with_reducible refine Kd.C_drewN ?_ _) | (with_reducible refine Kd.C_drew ?_) | exact HR277.out)) hb); have n3_ := Aside0.mk (below_step (by repeat (first | (with_reducible first | exact HB.out | apply below_alloc | apply pw_below_drewN | apply below_drew1) | exact HB.out)) hb); clear HO_4; clear HR271; clear HR277; clear HB; have HO_4 := n0_; have HR271 := n1_; have HR277 := n2_; have HB := n3_; clear n0_ n1_ n2_ n3_; (try clear hb); (try clear hb2); (try clear hk); (try clear hi)))
                            go_ret
                            exact ⟨by first | rfl | (simp [errW_none, errW_some] <;> rfl) | (simp [*, errW_none, errW_some] <;> rfl), by repeat (first | (with_reducible first | exact HB.out | apply below_alloc | apply pw_below_drewN | apply below_drew1) | exact HB.out)⟩
                        · rw [if_neg c34] at H
                          have c34b0 : (t279 == 0) = false := beq_eq_false_iff_ne.mpr c34
                          have c34b1 : (t279 != 0) = true := bne_iff_ne.mpr c34
                          obtain rfl := Option.some.inj H
                          have q55 : (x9_2 : Int) ≤ ((t260.length : Int) : Int) := of_decide_eq_true (by first | (with_reducible assumption) | assumption)
                          obtain ⟨i055, hi055, _, hsz55, _⟩ := info_parts info9
                          have hroom55 : t260.length ≤ co22 := (Kd.R_reads' HO_4.out).2.1
                          have hC55 : Kd.C Kd.string _ Ao22 t260.length t260 := (Kd.R_reads' HO_4.out).2.2
                          have hcut55 := cut_to (P := Try.prog) 24 9 .i64 Try.underlying24 hi055 Ao22 t260.length co22 x9_2 (of_decide_eq_true (by first | (with_reducible assumption) | assumption)) q55 hroom55
                          have hr55 := Kd.C_take (m := (x9_2 : Int).toNat) hC55 (by omega)
                          have hy55 : y268.length = (x9_2 : Int).toNat := (by rw [Ny268.out, List.length_take]; omega)
                          rw [← Ny268.out] at hr55
                          rw [← hy55] at hcut55
                          have HR271 := Aside0.mk hr55
                          have HC271 := Aside0.mk (show y268.length ≤ co22 from by omega)
                          clear hr55 hC55 hroom55 hi055 hsz55
                          have KY55 := Aside0.mk hy55
                          clear hy55
                          have KL55 := Aside0.mk (show (x9_2 : Int).toNat ≤ t260.length from by omega)
                          replace q55 := eq_true q55
                          go_wp2_with (first | ((with_reducible refine gate_callee (f := 11) rfl ?_); refine goesL_ (some 64) rfl rfl Try.func11 (by kernel_rfl) rfl #[.slice Ao22 y268.length co22] rfl (by (try simp only [List.map_toArray, List.map_cons, List.map_nil]); first | done | rfl | (simp only [List.length_drop, List.length_take]; rfl)) ?_; (with_reducible refine (tree_Root.calls k2 _ _ y268 t272 t273 _ ?side1 ?side2 A27.out).mono ?_); (case side1 => repeat (first | exact (by repeat (first | (with_reducible exact HR271.out) | (with_reducible refine Kd.C_alloc ?_ _) | (with_reducible refine Kd.C_drewN ?_ _) | (with_reducible refine Kd.C_drew ?_) | exact HR271.out)) | (with_reducible refine Kd.C_alloc ?_ _) | (with_reducible refine Kd.C_drewN ?_ _) | (with_reducible refine Kd.C_drew ?_))); (case side2 => exact HC271.out); rintro e w56 ⟨rfl, hb⟩; refine ⟨_, rfl, ?_⟩; have n0_ := Aside0.mk (Kd.R_below (by (with_reducible repeat (first | apply Kd.R_alloc | apply Kd.R_drewN | apply Kd.R_drew)); exact HO_4.out) hb); have n1_ := Aside0.mk (Kd.C_below (by repeat (first | (with_reducible exact HR271.out) | (with_reducible refine Kd.C_alloc ?_ _) | (with_reducible refine Kd.C_drewN ?_ _) | (with_reducible refine Kd.C_drew ?_) | exact HR271.out)) hb); have n2_ := Aside0.mk (below_step (by repeat (first | (with_reducible first | exact HB.out | apply below_alloc | apply pw_below_drewN | apply below_drew1) | exact HB.out)) hb); clear HO_4; clear HR271; clear HB; have HO_4 := n0_; have HR271 := n1_; have HB := n2_; clear n0_ n1_ n2_; (try clear hb); (try clear hb2); (try clear hk); (try clear hi); have q57 : (x9_2 : Int) ≤ ((t260.length : Int) : Int) := of_decide_eq_true (by first | (with_reducible assumption) | assumption); obtain ⟨i057, hi057, _, hsz57, _⟩ := info_parts info9; have hroom57 : t260.length ≤ co22 := (Kd.R_reads' HO_4.out).2.1; have hC57 : Kd.C Kd.string _ Ao22 t260.length t260 := (Kd.R_reads' HO_4.out).2.2; have q057 : (0 : Int) ≤ (x9_2 : Int) := of_decide_eq_true (by first | (with_reducible assumption) | assumption); have hcut57 := cut_from (P := Try.prog) 24 9 .i64 Try.underlying24 hi057 1 hsz57 Ao22 t260.length co22 x9_2 q057 q57; have hr57 := Kd.C_drop (m := (x9_2 : Int).toNat) (c := co22) hC57 (by omega) hroom57; obtain ⟨A57, hA57⟩ : ∃ A1, A1 = (if co22 = (x9_2 : Int).toNat then Ao22 else (Ao22 : Option Addr).map (·.add ((x9_2 : Int).toNat * 1))) := ⟨_, rfl⟩; obtain ⟨c57, hc57⟩ : ∃ c1, c1 = co22 - (x9_2 : Int).toNat := ⟨_, rfl⟩; have hy57 : y274.length = t260.length - (x9_2 : Int).toNat := (by rw [Ny274.out, List.length_drop] <;> omega); rw [show (t260).drop (x9_2 : Int).toNat = y274 from Ny274.out.symm] at hr57; replace hr57 : Kd.C Kd.string _ A57 y274.length y274 := (by rw [hA57]; exact hr57); rw [← hy57, ← hA57, ← hc57] at hcut57; have HR277 := Aside0.mk hr57; have HC277 := Aside0.mk (show y274.length ≤ c57 from by rw [hy57, hc57]; exact Nat.sub_le_sub_right hroom57 _); clear hr57 hC57 hroom57 hi057 hsz57 hc57; have KY57 := Aside0.mk hy57; have KA57 := Aside0.mk hA57; clear hy57 hA57; have KL57 := Aside0.mk (show (x9_2 : Int).toNat ≤ t260.length from by omega); replace q57 := eq_true q57) | ((with_reducible refine gate_callee (f := 11) rfl ?_); refine goesL_ (some 71) rfl rfl Try.func11 (by kernel_rfl) rfl #[.slice A57 y274.length c57] rfl (by (try simp only [List.map_toArray, List.map_cons, List.map_nil]); first | done | rfl | (simp only [List.length_drop, List.length_take]; rfl)) ?_; (with_reducible refine (tree_Root.calls k2 _ _ y274 t278 t279 _ ?side1 ?side2 A30.out).mono ?_); (case side1 => repeat (first | exact (by repeat (first | (with_reducible exact HR277.out) | (with_reducible refine Kd.C_alloc ?_ _) | (with_reducible refine Kd.C_drewN ?_ _) | (with_reducible refine Kd.C_drew ?_) | exact HR277.out)) | (with_reducible refine Kd.C_alloc ?_ _) | (with_reducible refine Kd.C_drewN ?_ _) | (with_reducible refine Kd.C_drew ?_))); (case side2 => exact HC277.out); rintro e w58 ⟨rfl, hb⟩; refine ⟨_, rfl, ?_⟩; have n0_ := Aside0.mk (Kd.R_below (by (with_reducible repeat (first | apply Kd.R_alloc | apply Kd.R_drewN | apply Kd.R_drew)); exact HO_4.out) hb); have n1_ := Aside0.mk (Kd.C_below (by repeat (first | (with_reducible exact HR271.out) | (with_reducible refine Kd.C_alloc ?_ _) | (with_reducible refine Kd.C_drewN ?_ _) | (with_reducible refine Kd.C_drew ?_) | exact HR271.out)) hb); have n2_ := Aside0.mk (Kd.C_below (by repeat (first | (with_reducible exact HR277.out) | (with_reducible refine Kd.C_alloc ?_ _) | (with_reducible refine Kd.C_drewN ?_ _) | (with_reducible refine Kd.C_drew ?_) | exact HR277.out)) hb); have n3_ := Aside0.mk (below_step (by repeat (first | (with_reducible first | exact HB.out | apply below_alloc | apply pw_below_drewN | apply below_drew1) | exact HB.out)) hb); clear HO_4; clear HR271; clear HR277; clear HB; have HO_4 := n0_; have HR271 := n1_; have HR277 := n2_; have HB := n3_; clear n0_ n1_ n2_ n3_; (try clear hb); (try clear hb2); (try clear hk); (try clear hi)) | ((with_reducible refine gate_callee (f := 17) rfl ?_); refine goesL_ (some 77) rfl rfl Try.func17 (by kernel_rfl) rfl #[.string t272, .string t278] rfl (by (try simp only [List.map_toArray, List.map_cons, List.map_nil]); first | done | rfl | (simp only [List.length_drop, List.length_take]; rfl)) ?_; (with_reducible refine (term_OfPair.calls t272 t278 t280 t281 _ A31.out).mono ?_); rintro e w59 ⟨rfl, hb⟩; refine ⟨_, rfl, ?_⟩; have n0_ := Aside0.mk (Kd.R_below (by (with_reducible repeat (first | apply Kd.R_alloc | apply Kd.R_drewN | apply Kd.R_drew)); exact HO_4.out) hb); have n1_ := Aside0.mk (Kd.C_below (by repeat (first | (with_reducible exact HR271.out) | (with_reducible refine Kd.C_alloc ?_ _) | (with_reducible refine Kd.C_drewN ?_ _) | (with_reducible refine Kd.C_drew ?_) | exact HR271.out)) hb); have n2_ := Aside0.mk (Kd.C_below (by repeat (first | (with_reducible exact HR277.out) | (with_reducible refine Kd.C_alloc ?_ _) | (with_reducible refine Kd.C_drewN ?_ _) | (with_reducible refine Kd.C_drew ?_) | exact HR277.out)) hb); have n3_ := Aside0.mk (below_step (by repeat (first | (with_reducible first | exact HB.out | apply below_alloc | apply pw_below_drewN | apply below_drew1) | exact HB.out)) hb); clear HO_4; clear HR271; clear HR277; clear HB; have HO_4 := n0_; have HR271 := n1_; have HR277 := n2_; have HB := n3_; clear n0_ n1_ n2_ n3_; (try clear hb); (try clear hb2); (try clear hk); (try clear hi)) | ((with_reducible refine gate_callee (f := 16) rfl ?_); refine goesL_ (some 82) rfl rfl Try.func16 (by kernel_rfl) rfl #[.string t280] rfl (by (try simp only [List.map_toArray, List.map_cons, List.map_nil]); first | done | rfl | (simp only [List.length_drop, List.length_take]; rfl)) ?_; (with_reducible refine (term_OfHash.calls t280 t282 t283 _ A32.out).mono ?_); rintro e w60 ⟨rfl, hb⟩; refine ⟨_, rfl, ?_⟩; have n0_ := Aside0.mk (Kd.R_below (by (with_reducible repeat (first | apply Kd.R_alloc | apply Kd.R_drewN | apply Kd.R_drew)); exact HO_4.out) hb); have n1_ := Aside0.mk (Kd.C_below (by repeat (first | (with_reducible exact HR271.out) | (with_reducible refine Kd.C_alloc ?_ _) | (with_reducible refine Kd.C_drewN ?_ _) | (with_reducible refine Kd.C_drew ?_) | exact HR271.out)) hb); have n2_ := Aside0.mk (Kd.C_below (by repeat (first | (with_reducible exact HR277.out) | (with_reducible refine Kd.C_alloc ?_ _) | (with_reducible refine Kd.C_drewN ?_ _) | (with_reducible refine Kd.C_drew ?_) | exact HR277.out)) hb); have n3_ := Aside0.mk (below_step (by repeat (first | (with_reducible first | exact HB.out | apply below_alloc | apply pw_below_drewN | apply below_drew1) | exact HB.out)) hb); clear HO_4; clear HR271; clear HR277; clear HB; have HO_4 := n0_; have HR271 := n1_; have HR277 := n2_; have HB := n3_; clear n0_ n1_ n2_ n3_; (try clear hb); (try clear hb2); (try clear hk); (try clear hi)))
                          go_ret
                          exact ⟨by first | rfl | (simp [errW_none, errW_some] <;> rfl) | (simp [*, errW_none, errW_some] <;> rfl), by repeat (first | (with_reducible first | exact HB.out | apply below_alloc | apply pw_below_drewN | apply below_drew1) | exact HB.out)⟩
                      · rw [if_neg c33] at H
                        have c33b0 : (t273 == 0) = false := beq_eq_false_iff_ne.mpr c33
                        have c33b1 : (t273 != 0) = true := bne_iff_ne.mpr c33
                        obtain rfl := Option.some.inj H
                        have q61 : (x9_2 : Int) ≤ ((t260.length : Int) : Int) := of_decide_eq_true (by first | (with_reducible assumption) | assumption)
                        obtain ⟨i061, hi061, _, hsz61, _⟩ := info_parts info9
                        have hroom61 : t260.length ≤ co22 := (Kd.R_reads' HO_4.out).2.1
                        have hC61 : Kd.C Kd.string _ Ao22 t260.length t260 := (Kd.R_reads' HO_4.out).2.2
                        have hcut61 := cut_to (P := Try.prog) 24 9 .i64 Try.underlying24 hi061 Ao22 t260.length co22 x9_2 (of_decide_eq_true (by first | (with_reducible assumption) | assumption)) q61 hroom61
                        have hr61 := Kd.C_take (m := (x9_2 : Int).toNat) hC61 (by omega)
                        have hy61 : y268.length = (x9_2 : Int).toNat := (by rw [Ny268.out, List.length_take]; omega)
                        rw [← Ny268.out] at hr61
                        rw [← hy61] at hcut61
                        have HR271 := Aside0.mk hr61
                        have HC271 := Aside0.mk (show y268.length ≤ co22 from by omega)
                        clear hr61 hC61 hroom61 hi061 hsz61
                        have KY61 := Aside0.mk hy61
                        clear hy61
                        have KL61 := Aside0.mk (show (x9_2 : Int).toNat ≤ t260.length from by omega)
                        replace q61 := eq_true q61
                        go_wp2_with (first | ((with_reducible refine gate_callee (f := 11) rfl ?_); refine goesL_ (some 64) rfl rfl Try.func11 (by kernel_rfl) rfl #[.slice Ao22 y268.length co22] rfl (by (try simp only [List.map_toArray, List.map_cons, List.map_nil]); first | done | rfl | (simp only [List.length_drop, List.length_take]; rfl)) ?_; (with_reducible refine (tree_Root.calls k2 _ _ y268 t272 t273 _ ?side1 ?side2 A27.out).mono ?_); (case side1 => repeat (first | exact (by repeat (first | (with_reducible exact HR271.out) | (with_reducible refine Kd.C_alloc ?_ _) | (with_reducible refine Kd.C_drewN ?_ _) | (with_reducible refine Kd.C_drew ?_) | exact HR271.out)) | (with_reducible refine Kd.C_alloc ?_ _) | (with_reducible refine Kd.C_drewN ?_ _) | (with_reducible refine Kd.C_drew ?_))); (case side2 => exact HC271.out); rintro e w62 ⟨rfl, hb⟩; refine ⟨_, rfl, ?_⟩; have n0_ := Aside0.mk (Kd.R_below (by (with_reducible repeat (first | apply Kd.R_alloc | apply Kd.R_drewN | apply Kd.R_drew)); exact HO_4.out) hb); have n1_ := Aside0.mk (Kd.C_below (by repeat (first | (with_reducible exact HR271.out) | (with_reducible refine Kd.C_alloc ?_ _) | (with_reducible refine Kd.C_drewN ?_ _) | (with_reducible refine Kd.C_drew ?_) | exact HR271.out)) hb); have n2_ := Aside0.mk (below_step (by repeat (first | (with_reducible first | exact HB.out | apply below_alloc | apply pw_below_drewN | apply below_drew1) | exact HB.out)) hb); clear HO_4; clear HR271; clear HB; have HO_4 := n0_; have HR271 := n1_; have HB := n2_; clear n0_ n1_ n2_; (try clear hb); (try clear hb2); (try clear hk); (try clear hi); have q63 : (x9_2 : Int) ≤ ((t260.length : Int) : Int) := of_decide_eq_true (by first | (with_reducible assumption) | assumption); obtain ⟨i063, hi063, _, hsz63, _⟩ := info_parts info9; have hroom63 : t260.length ≤ co22 := (Kd.R_reads' HO_4.out).2.1; have hC63 : Kd.C Kd.string _ Ao22 t260.length t260 := (Kd.R_reads' HO_4.out).2.2; have q063 : (0 : Int) ≤ (x9_2 : Int) := of_decide_eq_true (by first | (with_reducible assumption) | assumption); have hcut63 := cut_from (P := Try.prog) 24 9 .i64 Try.underlying24 hi063 1 hsz63 Ao22 t260.length co22 x9_2 q063 q63; have hr63 := Kd.C_drop (m := (x9_2 : Int).toNat) (c := co22) hC63 (by omega) hroom63; obtain ⟨A63, hA63⟩ : ∃ A1, A1 = (if co22 = (x9_2 : Int).toNat then Ao22 else (Ao22 : Option Addr).map (·.add ((x9_2 : Int).toNat * 1))) := ⟨_, rfl⟩; obtain ⟨c63, hc63⟩ : ∃ c1, c1 = co22 - (x9_2 : Int).toNat := ⟨_, rfl⟩; have hy63 : y274.length = t260.length - (x9_2 : Int).toNat := (by rw [Ny274.out, List.length_drop] <;> omega); rw [show (t260).drop (x9_2 : Int).toNat = y274 from Ny274.out.symm] at hr63; replace hr63 : Kd.C Kd.string _ A63 y274.length y274 := (by rw [hA63]; exact hr63); rw [← hy63, ← hA63, ← hc63] at hcut63; have HR277 := Aside0.mk hr63; have HC277 := Aside0.mk (show y274.length ≤ c63 from by rw [hy63, hc63]; exact Nat.sub_le_sub_right hroom63 _); clear hr63 hC63 hroom63 hi063 hsz63 hc63; have KY63 := Aside0.mk hy63; have KA63 := Aside0.mk hA63; clear hy63 hA63; have KL63 := Aside0.mk (show (x9_2 : Int).toNat ≤ t260.length from by omega); replace q63 := eq_true q63) | ((with_reducible refine gate_callee (f := 11) rfl ?_); refine goesL_ (some 71) rfl rfl Try.func11 (by kernel_rfl) rfl #[.slice A63 y274.length c63] rfl (by (try simp only [List.map_toArray, List.map_cons, List.map_nil]); first | done | rfl | (simp only [List.length_drop, List.length_take]; rfl)) ?_; (with_reducible refine (tree_Root.calls k2 _ _ y274 t278 t279 _ ?side1 ?side2 A30.out).mono ?_); (case side1 => repeat (first | exact (by repeat (first | (with_reducible exact HR277.out) | (with_reducible refine Kd.C_alloc ?_ _) | (with_reducible refine Kd.C_drewN ?_ _) | (with_reducible refine Kd.C_drew ?_) | exact HR277.out)) | (with_reducible refine Kd.C_alloc ?_ _) | (with_reducible refine Kd.C_drewN ?_ _) | (with_reducible refine Kd.C_drew ?_))); (case side2 => exact HC277.out); rintro e w64 ⟨rfl, hb⟩; refine ⟨_, rfl, ?_⟩; have n0_ := Aside0.mk (Kd.R_below (by (with_reducible repeat (first | apply Kd.R_alloc | apply Kd.R_drewN | apply Kd.R_drew)); exact HO_4.out) hb); have n1_ := Aside0.mk (Kd.C_below (by repeat (first | (with_reducible exact HR271.out) | (with_reducible refine Kd.C_alloc ?_ _) | (with_reducible refine Kd.C_drewN ?_ _) | (with_reducible refine Kd.C_drew ?_) | exact HR271.out)) hb); have n2_ := Aside0.mk (Kd.C_below (by repeat (first | (with_reducible exact HR277.out) | (with_reducible refine Kd.C_alloc ?_ _) | (with_reducible refine Kd.C_drewN ?_ _) | (with_reducible refine Kd.C_drew ?_) | exact HR277.out)) hb); have n3_ := Aside0.mk (below_step (by repeat (first | (with_reducible first | exact HB.out | apply below_alloc | apply pw_below_drewN | apply below_drew1) | exact HB.out)) hb); clear HO_4; clear HR271; clear HR277; clear HB; have HO_4 := n0_; have HR271 := n1_; have HR277 := n2_; have HB := n3_; clear n0_ n1_ n2_ n3_; (try clear hb); (try clear hb2); (try clear hk); (try clear hi)) | ((with_reducible refine gate_callee (f := 17) rfl ?_); refine goesL_ (some 77) rfl rfl Try.func17 (by kernel_rfl) rfl #[.string t272, .string t278] rfl (by (try simp only [List.map_toArray, List.map_cons, List.map_nil]); first | done | rfl | (simp only [List.length_drop, List.length_take]; rfl)) ?_; (with_reducible refine (term_OfPair.calls t272 t278 t280 t281 _ A31.out).mono ?_); rintro e w65 ⟨rfl, hb⟩; refine ⟨_, rfl, ?_⟩; have n0_ := Aside0.mk (Kd.R_below (by (with_reducible repeat (first | apply Kd.R_alloc | apply Kd.R_drewN | apply Kd.R_drew)); exact HO_4.out) hb); have n1_ := Aside0.mk (Kd.C_below (by repeat (first | (with_reducible exact HR271.out) | (with_reducible refine Kd.C_alloc ?_ _) | (with_reducible refine Kd.C_drewN ?_ _) | (with_reducible refine Kd.C_drew ?_) | exact HR271.out)) hb); have n2_ := Aside0.mk (Kd.C_below (by repeat (first | (with_reducible exact HR277.out) | (with_reducible refine Kd.C_alloc ?_ _) | (with_reducible refine Kd.C_drewN ?_ _) | (with_reducible refine Kd.C_drew ?_) | exact HR277.out)) hb); have n3_ := Aside0.mk (below_step (by repeat (first | (with_reducible first | exact HB.out | apply below_alloc | apply pw_below_drewN | apply below_drew1) | exact HB.out)) hb); clear HO_4; clear HR271; clear HR277; clear HB; have HO_4 := n0_; have HR271 := n1_; have HR277 := n2_; have HB := n3_; clear n0_ n1_ n2_ n3_; (try clear hb); (try clear hb2); (try clear hk); (try clear hi)) | ((with_reducible refine gate_callee (f := 16) rfl ?_); refine goesL_ (some 82) rfl rfl Try.func16 (by kernel_rfl) rfl #[.string t280] rfl (by (try simp only [List.map_toArray, List.map_cons, List.map_nil]); first | done | rfl | (simp only [List.length_drop, List.length_take]; rfl)) ?_; (with_reducible refine (term_OfHash.calls t280 t282 t283 _ A32.out).mono ?_); rintro e w66 ⟨rfl, hb⟩; refine ⟨_, rfl, ?_⟩; have n0_ := Aside0.mk (Kd.R_below (by (with_reducible repeat (first | apply Kd.R_alloc | apply Kd.R_drewN | apply Kd.R_drew)); exact HO_4.out) hb); have n1_ := Aside0.mk (Kd.C_below (by repeat (first | (with_reducible exact HR271.out) | (with_reducible refine Kd.C_alloc ?_ _) | (with_reducible refine Kd.C_drewN ?_ _) | (with_reducible refine Kd.C_drew ?_) | exact HR271.out)) hb); have n2_ := Aside0.mk (Kd.C_below (by repeat (first | (with_reducible exact HR277.out) | (with_reducible refine Kd.C_alloc ?_ _) | (with_reducible refine Kd.C_drewN ?_ _) | (with_reducible refine Kd.C_drew ?_) | exact HR277.out)) hb); have n3_ := Aside0.mk (below_step (by repeat (first | (with_reducible first | exact HB.out | apply below_alloc | apply pw_below_drewN | apply below_drew1) | exact HB.out)) hb); clear HO_4; clear HR271; clear HR277; clear HB; have HO_4 := n0_; have HR271 := n1_; have HR277 := n2_; have HB := n3_; clear n0_ n1_ n2_ n3_; (try clear hb); (try clear hb2); (try clear hk); (try clear hi)))
                        go_ret
                        exact ⟨by first | rfl | (simp [errW_none, errW_some] <;> rfl) | (simp [*, errW_none, errW_some] <;> rfl), by repeat (first | (with_reducible first | exact HB.out | apply below_alloc | apply pw_below_drewN | apply below_drew1) | exact HB.out)⟩
                    · rw [if_neg c26] at H
                      exact absurd H (by simp)
                  · rw [if_neg c25] at H
                    exact absurd H (by simp)
        · rw [if_neg c11] at H
          have c11b0 : (t264 == 0) = false := beq_eq_false_iff_ne.mpr c11
          have c11b1 : (t264 != 0) = true := bne_iff_ne.mpr c11
          obtain rfl := Option.some.inj H
          obtain ⟨Ao67, co67, eo67⟩ := Kd.R_slice HO_4.out
          subst eo67
          go_wp2_with (first | ((with_reducible refine gate_callee (f := 11) rfl ?_); refine goesL_ (some 31) rfl rfl Try.func11 (by kernel_rfl) rfl #[.slice Ao67 t260.length co67] rfl (by (try simp only [List.map_toArray, List.map_cons, List.map_nil]); first | done | rfl | (simp only [List.length_drop, List.length_take]; rfl)) ?_; (with_reducible refine (tree_Root.calls kj3 _ _ t260 t263 t264 _ ?side1 ?side2 A10.out).mono ?_); (case side1 => repeat (first | exact (Kd.R_reads' HO_4.out).2.2 | (with_reducible refine Kd.C_alloc ?_ _) | (with_reducible refine Kd.C_drewN ?_ _) | (with_reducible refine Kd.C_drew ?_))); (case side2 => exact (Kd.R_reads' HO_4.out).2.1); rintro e w68 ⟨rfl, hb⟩; refine ⟨_, rfl, ?_⟩; have n0_ := Aside0.mk (Kd.R_below (by (with_reducible repeat (first | apply Kd.R_alloc | apply Kd.R_drewN | apply Kd.R_drew)); exact HO_4.out) hb); have n1_ := Aside0.mk (below_step (by repeat (first | (with_reducible first | exact HB.out | apply below_alloc | apply pw_below_drewN | apply below_drew1) | exact HB.out)) hb); clear HO_4; clear HB; have HO_4 := n0_; have HB := n1_; clear n0_ n1_; (try clear hb); (try clear hb2); (try clear hk); (try clear hi)))
          go_ret
          exact ⟨by first | rfl | (simp [errW_none, errW_some] <;> rfl) | (simp [*, errW_none, errW_some] <;> rfl), by repeat (first | (with_reducible first | exact HB.out | apply below_alloc | apply pw_below_drewN | apply below_drew1) | exact HB.out)⟩

/-- THE ONE PURE STATEMENT of letterlocklaw10_TreeShape: yours. -/
def letterlocklaw10_TreeShape.Pure : Prop := ∀ (l0 : List Int), l0.length ≤ maxLen → l0.length * 8 ≤ 140737488351232 → (∀ x ∈ l0, (Lit.int .i64 x).wf = true) → ∃ k, letterlocklaw10_TreeShape.f k l0 = some true
theorem letterlocklaw10_TreeShape.walk (P : letterlocklaw10_TreeShape.Pure) (a0 : Option Addr) (len0 cap0 : Nat) (z0 : List Int) (w : World) (w0 : (a0 = none ∧ len0 = 0 ∧ cap0 = 0 ∧ z0 = []) ∨ ∃ x, a0 = some x ∧ len0 ≤ cap0 ∧ cap0 ≤ maxLen ∧ z0.length = cap0 ∧ (∀ i, i < z0.length → w.cell? (x.add i) = some (.int .i64 (z0.getD i 0))) ∧ ∀ n ∈ z0, (Lit.int .i64 n).wf = true) (y0 : len0 * 8 ≤ 140737488351232) :
    Calls Try.prog 4 #[.slice a0 len0 cap0] w fun e w' => e = .returned (.bool true) ∧ Below w.heap.size w w' := by
  obtain ⟨l0, rfl, hr0, hm0, hw0, hc0⟩ := ReadsInt.ofRowC w0
  obtain ⟨k, h⟩ := P l0 hm0 y0 hw0
  refine (letterlocklaw10_TreeShape.calls k _ _ l0 true w (Kd.C_of_reads (d := (0 : Int)) (h1 := fun _ => rfl) hr0) hc0 h).mono ?_
  rintro e w' ⟨rfl, hd⟩
  exact ⟨rfl, hd⟩

end Go.Proofs.Ytbbcklpenafefaa.P
