/- Printed for this claim by wip/myprint.py out of the translation: Lean functions with the answers of the Go functions, and proofs that the Go code comes to them. Lean checks it. -/
import Derived.Test.YtbbcklpenafefaaG0
import Derived.Test.YtbbcklpenafefaaGLaw10
import Derived.Test.YtbbcklpenafefaaGTree
import Derived.Test.YtbbcklpenafefaaXTerm
import Derived.Test.YtbbcklpenafefaaXTree
namespace Go.Proofs.Ytbbcklpenafefaa.P
open Go.RowKit Go.Proofs.YtbbcklpenafefaaW.PrintWords Go.Proofs.YtbbcklpenafefaaW.PrintLast Go.Proofs.YtbbcklpenafefaaW.PrintMore
attribute [local go_sem] max2_int min2_int max_two min_two max_three min_three max_four min_four   -- for this text's walks alone
set_option linter.unusedVariables false
set_option linter.unusedSimpArgs false

/-! ### letterlocklaw10_TreeOne: function 3 -/
mutual
def letterlocklaw10_TreeOne.j0 : Nat → Int → Bool → List ByteArray → List ByteArray → Bool → Option (Bool)
  | 0, _, _, _, _, _ => none
  | k + 1, x2, x7, x8, x9, x38 => if x38 = true then (some x7) else ((tree_Root.f k x8).bind fun bt235 => ((tree_Root.f k x9).bind fun bt237 => (if bt235.2 = 0 then (if bt237.2 = 0 then ((letterlocklaw10_same.f k x8 x9).bind fun t239 => (letterlocklaw10_TreeOne.j1 k x2 x8 bt235.1 ((bt235.1.toList == bt237.1.toList) != t239))) else (letterlocklaw10_TreeOne.j1 k x2 x8 bt235.1 true)) else (letterlocklaw10_TreeOne.j1 k x2 x8 bt235.1 true))))
def letterlocklaw10_TreeOne.j1 : Nat → Int → List ByteArray → ByteArray → Bool → Option (Bool)
  | 0, _, _, _, _ => none
  | k + 1, x2, x8, x10, x64 => if x64 = true then (some false) else ((some (([] : List ByteArray) : List ByteArray)).bind fun y240 => (if y240.length + x8.length < 8796093022208 then ((some (y240 ++ x8 : List ByteArray)).bind fun y243 => ((letterlocklaw10_pick.f x2 (x8.length : Int)).bind fun t246 => ((tree_Leaf.f k (⟨#[111, 116, 104, 101, 114]⟩ : ByteArray) 3).bind fun bt247 => (if 0 ≤ t246 then (if t246 < (y243.length : Int) then ((some (y243.set (t246 : Int).toNat bt247.1 : List ByteArray)).bind fun y249 => ((tree_Root.f k y249).bind fun bt250 => (if bt250.2 = 0 then (if bt250.1.toList = x10.toList then (letterlocklaw10_TreeOne.j2 k x10 y249 bt250.1 true) else ((term_Kind.f bt250.1).bind fun t252 => (letterlocklaw10_TreeOne.j2 k x10 y249 bt250.1 (t252 != 104)))) else (letterlocklaw10_TreeOne.j2 k x10 y249 bt250.1 true)))) else (none)) else (none))))) else (none)))
def letterlocklaw10_TreeOne.j2 : Nat → ByteArray → List ByteArray → ByteArray → Bool → Option (Bool)
  | 0, _, _, _, _ => none
  | k + 1, x10, x14, x18, x96 => if x96 = true then (some false) else (if 0 ≤ (wrap64 ((x14.length : Int) - 1)) then (if (wrap64 ((x14.length : Int) - 1)) ≤ (x14.length : Int) then ((tree_Root.f k (x14.take ((wrap64 ((x14.length : Int) - 1)) : Int).toNat)).bind fun bt257 => (if (x14.length : Int) = 1 then (if bt257.2 = 1 then (some (bt257.1.toList == ([] : List UInt8))) else (some false)) else (if bt257.2 = 0 then (if bt257.1.toList = x18.toList then (some false) else (some (bt257.1.toList != x10.toList))) else (some false)))) else (none)) else (none))
end
def letterlocklaw10_TreeOne.f (k : Nat) (l0 : List Int) (l1 : List Int) (a2 : Int) : Option (Bool) := (letterlocklaw10_shown.f k).bind fun t228 => ((letterlocklaw10_row.f k l0).bind fun t229 => ((letterlocklaw10_row.f k l1).bind fun t232 => (if t228 = true then (if (t229.length : Int) = 0 then (letterlocklaw10_TreeOne.j0 k a2 t228 t229 t232 true) else (letterlocklaw10_TreeOne.j0 k a2 t228 t229 t232 ((t232.length : Int) == 0))) else (letterlocklaw10_TreeOne.j0 k a2 t228 t229 t232 true))))
theorem letterlocklaw10_TreeOne.mono_l : ∀ k, (∀ y0 y1 y2 y3 y4, LeO (letterlocklaw10_TreeOne.j0 k y0 y1 y2 y3 y4) (letterlocklaw10_TreeOne.j0 (k + 1) y0 y1 y2 y3 y4)) ∧ (∀ y0 y1 y2 y3, LeO (letterlocklaw10_TreeOne.j1 k y0 y1 y2 y3) (letterlocklaw10_TreeOne.j1 (k + 1) y0 y1 y2 y3)) ∧ (∀ y0 y1 y2 y3, LeO (letterlocklaw10_TreeOne.j2 k y0 y1 y2 y3) (letterlocklaw10_TreeOne.j2 (k + 1) y0 y1 y2 y3))
  | 0 => ⟨fun _ _ _ _ _ r h => by simp [letterlocklaw10_TreeOne.j0] at h, fun _ _ _ _ r h => by simp [letterlocklaw10_TreeOne.j1] at h, fun _ _ _ _ r h => by simp [letterlocklaw10_TreeOne.j2] at h⟩
  | k + 1 => by
    obtain ⟨ih0, ih1, ih2⟩ := letterlocklaw10_TreeOne.mono_l k
    refine ⟨?_, ?_, ?_⟩
    · intro y0 y1 y2 y3 y4
      unfold letterlocklaw10_TreeOne.j0
      repeat' first
      | (with_reducible exact ih0 _ _ _ _ _)
      | (with_reducible exact ih1 _ _ _ _)
      | (with_reducible exact ih2 _ _ _ _)
      | (with_reducible exact letterlocklaw10_row.mono _ _)
      | (with_reducible exact letterlocklaw10_same.mono _ _ _)
      | (with_reducible exact letterlocklaw10_shown.mono _)
      | (with_reducible exact tree_Leaf.mono _ _ _)
      | (with_reducible exact tree_Root.mono _ _)
      | (with_reducible exact LeO.refl _)
      | (with_reducible exact LeO.none _)
      | (with_reducible refine LeO.ite ?_ ?_)
      | (with_reducible refine LeO.bind ?_ (fun _ => ?_))
      | exact ih0 _ _ _ _ _
      | exact ih1 _ _ _ _
      | exact ih2 _ _ _ _
      | exact letterlocklaw10_row.mono _ _
      | exact letterlocklaw10_same.mono _ _ _
      | exact letterlocklaw10_shown.mono _
      | exact tree_Leaf.mono _ _ _
      | exact tree_Root.mono _ _
      | exact LeO.none _
      | refine LeO.ite ?_ ?_
      | refine LeO.bind ?_ (fun _ => ?_)
    · intro y0 y1 y2 y3
      unfold letterlocklaw10_TreeOne.j1
      repeat' first
      | (with_reducible exact ih0 _ _ _ _ _)
      | (with_reducible exact ih1 _ _ _ _)
      | (with_reducible exact ih2 _ _ _ _)
      | (with_reducible exact letterlocklaw10_row.mono _ _)
      | (with_reducible exact letterlocklaw10_same.mono _ _ _)
      | (with_reducible exact letterlocklaw10_shown.mono _)
      | (with_reducible exact tree_Leaf.mono _ _ _)
      | (with_reducible exact tree_Root.mono _ _)
      | (with_reducible exact LeO.refl _)
      | (with_reducible exact LeO.none _)
      | (with_reducible refine LeO.ite ?_ ?_)
      | (with_reducible refine LeO.bind ?_ (fun _ => ?_))
      | exact ih0 _ _ _ _ _
      | exact ih1 _ _ _ _
      | exact ih2 _ _ _ _
      | exact letterlocklaw10_row.mono _ _
      | exact letterlocklaw10_same.mono _ _ _
      | exact letterlocklaw10_shown.mono _
      | exact tree_Leaf.mono _ _ _
      | exact tree_Root.mono _ _
      | exact LeO.none _
      | refine LeO.ite ?_ ?_
      | refine LeO.bind ?_ (fun _ => ?_)
    · intro y0 y1 y2 y3
      unfold letterlocklaw10_TreeOne.j2
      repeat' first
      | (with_reducible exact ih0 _ _ _ _ _)
      | (with_reducible exact ih1 _ _ _ _)
      | (with_reducible exact ih2 _ _ _ _)
      | (with_reducible exact letterlocklaw10_row.mono _ _)
      | (with_reducible exact letterlocklaw10_same.mono _ _ _)
      | (with_reducible exact letterlocklaw10_shown.mono _)
      | (with_reducible exact tree_Leaf.mono _ _ _)
      | (with_reducible exact tree_Root.mono _ _)
      | (with_reducible exact LeO.refl _)
      | (with_reducible exact LeO.none _)
      | (with_reducible refine LeO.ite ?_ ?_)
      | (with_reducible refine LeO.bind ?_ (fun _ => ?_))
      | exact ih0 _ _ _ _ _
      | exact ih1 _ _ _ _
      | exact ih2 _ _ _ _
      | exact letterlocklaw10_row.mono _ _
      | exact letterlocklaw10_same.mono _ _ _
      | exact letterlocklaw10_shown.mono _
      | exact tree_Leaf.mono _ _ _
      | exact tree_Root.mono _ _
      | exact LeO.none _
      | refine LeO.ite ?_ ?_
      | refine LeO.bind ?_ (fun _ => ?_)
theorem letterlocklaw10_TreeOne.mono : ∀ a0 a1 a2 k, LeO (letterlocklaw10_TreeOne.f k a0 a1 a2) (letterlocklaw10_TreeOne.f (k + 1) a0 a1 a2) := by
  intro a0 a1 a2 k
  obtain ⟨ih0, ih1, ih2⟩ := letterlocklaw10_TreeOne.mono_l k
  unfold letterlocklaw10_TreeOne.f
  repeat' first
      | (with_reducible exact ih0 _ _ _ _ _)
      | (with_reducible exact ih1 _ _ _ _)
      | (with_reducible exact ih2 _ _ _ _)
      | (with_reducible exact letterlocklaw10_row.mono _ _)
      | (with_reducible exact letterlocklaw10_same.mono _ _ _)
      | (with_reducible exact letterlocklaw10_shown.mono _)
      | (with_reducible exact tree_Leaf.mono _ _ _)
      | (with_reducible exact tree_Root.mono _ _)
      | (with_reducible exact LeO.refl _)
      | (with_reducible exact LeO.none _)
      | (with_reducible refine LeO.ite ?_ ?_)
      | (with_reducible refine LeO.bind ?_ (fun _ => ?_))
      | exact ih0 _ _ _ _ _
      | exact ih1 _ _ _ _
      | exact ih2 _ _ _ _
      | exact letterlocklaw10_row.mono _ _
      | exact letterlocklaw10_same.mono _ _ _
      | exact letterlocklaw10_shown.mono _
      | exact tree_Leaf.mono _ _ _
      | exact tree_Root.mono _ _
      | exact LeO.none _
      | refine LeO.ite ?_ ?_
      | refine LeO.bind ?_ (fun _ => ?_)
set_option maxHeartbeats 8000000 in
set_option maxRecDepth 100000 in
theorem letterlocklaw10_TreeOne.calls (k : Nat) (A0 : Option Addr) (c0 : Nat) (l0 : List Int) (A1 : Option Addr) (c1 : Nat) (l1 : List Int) (a2 : Int) (r : Bool) (w : World) (hr0 : Kd.C (Kd.int .i64) w A0 l0.length l0) (hc0 : l0.length ≤ c0) (hr1 : Kd.C (Kd.int .i64) w A1 l1.length l1) (hc1 : l1.length ≤ c1) (h : letterlocklaw10_TreeOne.f k l0 l1 a2 = some r) :
    Calls Try.prog 3 #[.slice A0 l0.length c0, .slice A1 l1.length c1, .int .i64 a2] w fun e w' => e = .returned (.bool r) ∧ Below w.heap.size w w' := by
  have HR0 := Aside0.mk hr0
  have HC0 := Aside0.mk hc0
  clear hr0 hc0
  have HR1 := Aside0.mk hr1
  have HC1 := Aside0.mk hc1
  clear hr1 hc1
  have HB := Aside0.mk (Below.refl w.heap.size w)
  have H : ((letterlocklaw10_shown.f k).bind fun t228 => ((letterlocklaw10_row.f k l0).bind fun t229 => ((letterlocklaw10_row.f k l1).bind fun t232 => (if t228 = true then (if (t229.length : Int) = 0 then (letterlocklaw10_TreeOne.j0 k a2 t228 t229 t232 true) else (letterlocklaw10_TreeOne.j0 k a2 t228 t229 t232 ((t232.length : Int) == 0))) else (letterlocklaw10_TreeOne.j0 k a2 t228 t229 t232 true))))) = some r := h
  clear h
  replace H := Option.bind_eq_some_iff.mp H
  obtain ⟨t228, A40, H⟩ := H
  replace H : ((letterlocklaw10_row.f k l0).bind fun t229 => ((letterlocklaw10_row.f k l1).bind fun t232 => (if t228 = true then (if (t229.length : Int) = 0 then (letterlocklaw10_TreeOne.j0 k a2 t228 t229 t232 true) else (letterlocklaw10_TreeOne.j0 k a2 t228 t229 t232 ((t232.length : Int) == 0))) else (letterlocklaw10_TreeOne.j0 k a2 t228 t229 t232 true)))) = some r := H
  have A4 := Aside0.mk A40
  clear A40
  replace H := Option.bind_eq_some_iff.mp H
  obtain ⟨t229, A50, H⟩ := H
  replace H : ((letterlocklaw10_row.f k l1).bind fun t232 => (if t228 = true then (if (t229.length : Int) = 0 then (letterlocklaw10_TreeOne.j0 k a2 t228 t229 t232 true) else (letterlocklaw10_TreeOne.j0 k a2 t228 t229 t232 ((t232.length : Int) == 0))) else (letterlocklaw10_TreeOne.j0 k a2 t228 t229 t232 true))) = some r := H
  have A5 := Aside0.mk A50
  clear A50
  replace H := Option.bind_eq_some_iff.mp H
  obtain ⟨t232, A60, H⟩ := H
  replace H : (if t228 = true then (if (t229.length : Int) = 0 then (letterlocklaw10_TreeOne.j0 k a2 t228 t229 t232 true) else (letterlocklaw10_TreeOne.j0 k a2 t228 t229 t232 ((t232.length : Int) == 0))) else (letterlocklaw10_TreeOne.j0 k a2 t228 t229 t232 true)) = some r := H
  have A6 := Aside0.mk A60
  clear A60
  have HC7 := Aside0.mk H
  clear H
  go_enter Try.func3, Try.ntmps3
  go_upto_region 4 with (first | ((with_reducible refine gate_callee (f := 9) rfl ?_); refine goesL_ (some 22) rfl rfl Try.func9 (by kernel_rfl) rfl #[] rfl (by (try simp only [List.map_toArray, List.map_cons, List.map_nil]); first | done | rfl | (simp only [List.length_drop, List.length_take]; rfl)) ?_; (with_reducible refine (letterlocklaw10_shown.calls k  t228 _ A4.out).mono ?_); rintro e w8 ⟨rfl, hb⟩; refine ⟨_, rfl, ?_⟩; have n0_ := Aside0.mk (below_step (by repeat (first | (with_reducible first | exact HB.out | apply below_alloc | apply pw_below_drewN | apply below_drew1) | exact HB.out)) hb); clear HB; have HB := n0_; clear n0_; (try clear hb); (try clear hb2); (try clear hk); (try clear hi)) | ((with_reducible refine gate_callee (f := 10) rfl ?_); refine goesL_ (some 24) rfl rfl Try.func10 (by kernel_rfl) rfl #[.slice A0 l0.length c0] rfl (by (try simp only [List.map_toArray, List.map_cons, List.map_nil]); first | done | rfl | (simp only [List.length_drop, List.length_take]; rfl)) ?_; (with_reducible refine (letterlocklaw10_row.calls k _ _ l0 t229 _ ?side1 ?side2 A5.out).mono ?_); (case side1 => repeat (first | exact (Kd.C_below HR0.out HB.out) | (with_reducible refine Kd.C_alloc ?_ _) | (with_reducible refine Kd.C_drewN ?_ _) | (with_reducible refine Kd.C_drew ?_))); (case side2 => exact HC0.out); rintro e w9 ⟨v230, rfl, ho0, hb⟩; refine ⟨_, rfl, ?_⟩; have n0_ := Aside0.mk (Kd.R_lower ho0 (below_size (by repeat (first | (with_reducible first | exact HB.out | apply below_alloc | apply pw_below_drewN | apply below_drew1) | exact HB.out)))); have n1_ := Aside0.mk (below_step (by repeat (first | (with_reducible first | exact HB.out | apply below_alloc | apply pw_below_drewN | apply below_drew1) | exact HB.out)) hb); clear HB; have HO231 := n0_; have HB := n1_; clear n0_ n1_; (try clear hb); (try clear hb2); (try clear hk); (try clear hi); (try clear ho0)) | ((with_reducible refine gate_callee (f := 10) rfl ?_); refine goesL_ (some 26) rfl rfl Try.func10 (by kernel_rfl) rfl #[.slice A1 l1.length c1] rfl (by (try simp only [List.map_toArray, List.map_cons, List.map_nil]); first | done | rfl | (simp only [List.length_drop, List.length_take]; rfl)) ?_; (with_reducible refine (letterlocklaw10_row.calls k _ _ l1 t232 _ ?side1 ?side2 A6.out).mono ?_); (case side1 => repeat (first | exact (Kd.C_below HR1.out HB.out) | (with_reducible refine Kd.C_alloc ?_ _) | (with_reducible refine Kd.C_drewN ?_ _) | (with_reducible refine Kd.C_drew ?_))); (case side2 => exact HC1.out); rintro e w10 ⟨v233, rfl, ho0, hb⟩; refine ⟨_, rfl, ?_⟩; have n0_ := Aside0.mk (Kd.R_elder' (by (with_reducible repeat (first | apply Kd.R_alloc | apply Kd.R_drewN | apply Kd.R_drew)); exact HO231.out) (Kd.R_base ho0) hb); have n1_ := Aside0.mk (Kd.R_lower (Kd.R_new' ho0 (Kd.R_lt (by (with_reducible repeat (first | apply Kd.R_alloc | apply Kd.R_drewN | apply Kd.R_drew)); exact HO231.out))) (below_size (by repeat (first | (with_reducible first | exact HB.out | apply below_alloc | apply pw_below_drewN | apply below_drew1) | exact HB.out)))); have n2_ := Aside0.mk (below_step (by repeat (first | (with_reducible first | exact HB.out | apply below_alloc | apply pw_below_drewN | apply below_drew1) | exact HB.out)) hb); clear HO231; clear HB; have HO231 := n0_; have HO234 := n1_; have HB := n2_; clear n0_ n1_ n2_; (try clear hb); (try clear hb2); (try clear hk); (try clear hi); (try clear ho0)))
  (try simp only [Act.put, List.setIfInBounds_toArray, List.set_cons_zero, List.set_cons_succ])
  go_cut [38] (fun v38 wc => ∃ (kq : Nat) (x38_6 : Bool), v38 = .bool x38_6 ∧ Aside0 (letterlocklaw10_TreeOne.j0 kq a2 t228 t229 t232 x38_6 = some r) ∧ Aside0 (kq ≤ k) ∧ Aside0 (Kd.R Kd.string 9 wc w.heap.size (fun k_ => some k_ ≠ (v233 : Value).ownBlock) v230 t229) ∧ Aside0 (Kd.R Kd.string 9 wc w.heap.size (fun k_ => some k_ ≠ (v230 : Value).ownBlock) v233 t232) ∧ Aside0 (Below w.heap.size w wc))
  case first =>
    have H := HC7.out
    clear HC7
    by_cases c11 : t228 = true
    · subst c11
      have H1 : (if (t229.length : Int) = 0 then (letterlocklaw10_TreeOne.j0 k a2 true t229 t232 true) else (letterlocklaw10_TreeOne.j0 k a2 true t229 t232 ((t232.length : Int) == 0))) = some r := by rw [if_pos rfl] at H; exact H
      clear H
      have H := H1
      clear H1
      by_cases c12 : (t229.length : Int) = 0
      · rw [if_pos c12] at H
        have c12b0 : ((t229.length : Int) == 0) = true := beq_iff_eq.mpr c12
        have c12b1 : ((t229.length : Int) != 0) = false := bne_eq_false_iff_eq.mpr c12
        clear c12
        (first | rw [c12b0] | (simp only [i64_w, i32_w]; rw [c12b0]) | skip)
        have H' := Aside0.mk H
        clear H
        obtain ⟨Ao13, co13, eo13⟩ := Kd.R_slice HO231.out
        subst eo13
        go_wp2
        go_meet
        case rel => exact ⟨_, (true), (by first | rfl | (simp; done) | (simp [*]; done) | (simp; exact isEmpty_ne _)), H', ⟨by first | omega | exact Nat.le_refl _⟩, ⟨by (with_reducible repeat (first | apply Kd.R_alloc | apply Kd.R_drewN | apply Kd.R_drew)); exact Kd.R_mono HO231.out (fun _ hk => hk.2)⟩, ⟨by (with_reducible repeat (first | apply Kd.R_alloc | apply Kd.R_drewN | apply Kd.R_drew)); exact Kd.R_mono HO234.out (fun _ hk => hk.2)⟩, ⟨by repeat (first | (with_reducible first | exact HB.out | apply below_alloc | apply pw_below_drewN | apply below_drew1) | exact HB.out)⟩⟩
      · rw [if_neg c12] at H
        have c12b0 : ((t229.length : Int) == 0) = false := beq_eq_false_iff_ne.mpr c12
        have c12b1 : ((t229.length : Int) != 0) = true := bne_iff_ne.mpr c12
        have c12b2 : ¬ (t229 = []) := fun h_ => c12 (by rw [h_]; rfl)
        (first | rw [c12b0] | (simp only [i64_w, i32_w]; rw [c12b0]) | skip)
        have H' := Aside0.mk H
        clear H
        obtain ⟨Ao14, co14, eo14⟩ := Kd.R_slice HO231.out
        subst eo14
        obtain ⟨Ao15, co15, eo15⟩ := Kd.R_slice HO234.out
        subst eo15
        go_wp2
        go_meet
        case rel => exact ⟨_, (((t232.length : Int) == 0)), (by first | rfl | (simp; done) | (simp [*]; done) | (simp; exact isEmpty_ne _)), H', ⟨by first | omega | exact Nat.le_refl _⟩, ⟨by (with_reducible repeat (first | apply Kd.R_alloc | apply Kd.R_drewN | apply Kd.R_drew)); exact Kd.R_mono HO231.out (fun _ hk => hk.2)⟩, ⟨by (with_reducible repeat (first | apply Kd.R_alloc | apply Kd.R_drewN | apply Kd.R_drew)); exact Kd.R_mono HO234.out (fun _ hk => hk.2)⟩, ⟨by repeat (first | (with_reducible first | exact HB.out | apply below_alloc | apply pw_below_drewN | apply below_drew1) | exact HB.out)⟩⟩
    · replace c11 := Bool.eq_false_iff.mpr c11
      subst c11
      have H1 : (letterlocklaw10_TreeOne.j0 k a2 false t229 t232 true) = some r := by rw [if_neg (show ¬ (false = true) by decide)] at H; exact H
      clear H
      have H := H1
      clear H1
      have H' := Aside0.mk H
      clear H
      go_wp2
      go_meet
      case rel => exact ⟨_, (true), (by first | rfl | (simp; done) | (simp [*]; done) | (simp; exact isEmpty_ne _)), H', ⟨by first | omega | exact Nat.le_refl _⟩, ⟨by (with_reducible repeat (first | apply Kd.R_alloc | apply Kd.R_drewN | apply Kd.R_drew)); exact Kd.R_mono HO231.out (fun _ hk => hk.2)⟩, ⟨by (with_reducible repeat (first | apply Kd.R_alloc | apply Kd.R_drewN | apply Kd.R_drew)); exact Kd.R_mono HO234.out (fun _ hk => hk.2)⟩, ⟨by repeat (first | (with_reducible first | exact HB.out | apply below_alloc | apply pw_below_drewN | apply below_drew1) | exact HB.out)⟩⟩
  case rest =>
    clear HC7
    try clear c1
    try clear p2
    try clear c3
    try clear c9
    try clear c10
    try clear c11
    try clear c12
    try clear c12b0
    try clear c12b1
    try clear c12b2
    obtain ⟨kq, x38_6, rfl, HA, HJ6, HO_8, HO_9, HB⟩ := hcut
    cases kq with
    | zero => exact absurd HA.out (by simp [letterlocklaw10_TreeOne.j0])
    | succ kj6 =>
      have H := HA.out
      clear HA
      simp only [letterlocklaw10_TreeOne.j0] at H
      by_cases c16 : x38_6 = true
      · subst c16
        have H1 : (some t228) = some r := by rw [if_pos rfl] at H; exact H
        clear H
        have H := H1
        clear H1
        obtain rfl := Option.some.inj H
        go_wp2
        go_ret
        exact ⟨by first | rfl | (simp [errW_none, errW_some] <;> rfl) | (simp [*, errW_none, errW_some] <;> rfl), by repeat (first | (with_reducible first | exact HB.out | apply below_alloc | apply pw_below_drewN | apply below_drew1) | exact HB.out)⟩
      · replace c16 := Bool.eq_false_iff.mpr c16
        subst c16
        have H1 : ((tree_Root.f kj6 t229).bind fun bt235 => ((tree_Root.f kj6 t232).bind fun bt237 => (if bt235.2 = 0 then (if bt237.2 = 0 then ((letterlocklaw10_same.f kj6 t229 t232).bind fun t239 => (letterlocklaw10_TreeOne.j1 kj6 a2 t229 bt235.1 ((bt235.1.toList == bt237.1.toList) != t239))) else (letterlocklaw10_TreeOne.j1 kj6 a2 t229 bt235.1 true)) else (letterlocklaw10_TreeOne.j1 kj6 a2 t229 bt235.1 true)))) = some r := by rw [if_neg (show ¬ (false = true) by decide)] at H; exact H
        clear H
        have H := H1
        clear H1
        replace H := Option.bind_eq_some_iff.mp H
        obtain ⟨⟨t235, t236⟩, A170, H⟩ := H
        replace H : ((tree_Root.f kj6 t232).bind fun bt237 => (if t236 = 0 then (if bt237.2 = 0 then ((letterlocklaw10_same.f kj6 t229 t232).bind fun t239 => (letterlocklaw10_TreeOne.j1 kj6 a2 t229 t235 ((t235.toList == bt237.1.toList) != t239))) else (letterlocklaw10_TreeOne.j1 kj6 a2 t229 t235 true)) else (letterlocklaw10_TreeOne.j1 kj6 a2 t229 t235 true))) = some r := H
        have A17 := Aside0.mk A170
        clear A170
        replace H := Option.bind_eq_some_iff.mp H
        obtain ⟨⟨t237, t238⟩, A180, H⟩ := H
        replace H : (if t236 = 0 then (if t238 = 0 then ((letterlocklaw10_same.f kj6 t229 t232).bind fun t239 => (letterlocklaw10_TreeOne.j1 kj6 a2 t229 t235 ((t235.toList == t237.toList) != t239))) else (letterlocklaw10_TreeOne.j1 kj6 a2 t229 t235 true)) else (letterlocklaw10_TreeOne.j1 kj6 a2 t229 t235 true)) = some r := H
        have A18 := Aside0.mk A180
        clear A180
        have HC19 := Aside0.mk H
        clear H
        obtain ⟨Ao20, co20, eo20⟩ := Kd.R_slice HO_8.out
        subst eo20
        go_upto_region 8 with (first | ((with_reducible refine gate_callee (f := 11) rfl ?_); refine goesL_ (some 42) rfl rfl Try.func11 (by kernel_rfl) rfl #[.slice Ao20 t229.length co20] rfl (by (try simp only [List.map_toArray, List.map_cons, List.map_nil]); first | done | rfl | (simp only [List.length_drop, List.length_take]; rfl)) ?_; (with_reducible refine (tree_Root.calls kj6 _ _ t229 t235 t236 _ ?side1 ?side2 A17.out).mono ?_); (case side1 => repeat (first | exact (Kd.R_reads' HO_8.out).2.2 | (with_reducible refine Kd.C_alloc ?_ _) | (with_reducible refine Kd.C_drewN ?_ _) | (with_reducible refine Kd.C_drew ?_))); (case side2 => exact (Kd.R_reads' HO_8.out).2.1); rintro e w21 ⟨rfl, hb⟩; refine ⟨_, rfl, ?_⟩; have n0_ := Aside0.mk (Kd.R_below (by (with_reducible repeat (first | apply Kd.R_alloc | apply Kd.R_drewN | apply Kd.R_drew)); exact HO_8.out) hb); have n1_ := Aside0.mk (Kd.R_below (by (with_reducible repeat (first | apply Kd.R_alloc | apply Kd.R_drewN | apply Kd.R_drew)); exact HO_9.out) hb); have n2_ := Aside0.mk (below_step (by repeat (first | (with_reducible first | exact HB.out | apply below_alloc | apply pw_below_drewN | apply below_drew1) | exact HB.out)) hb); clear HO_8; clear HO_9; clear HB; have HO_8 := n0_; have HO_9 := n1_; have HB := n2_; clear n0_ n1_ n2_; (try clear hb); (try clear hb2); (try clear hk); (try clear hi); obtain ⟨Ao22, co22, eo22⟩ := Kd.R_slice HO_9.out; subst eo22) | ((with_reducible refine gate_callee (f := 11) rfl ?_); refine goesL_ (some 47) rfl rfl Try.func11 (by kernel_rfl) rfl #[.slice Ao22 t232.length co22] rfl (by (try simp only [List.map_toArray, List.map_cons, List.map_nil]); first | done | rfl | (simp only [List.length_drop, List.length_take]; rfl)) ?_; (with_reducible refine (tree_Root.calls kj6 _ _ t232 t237 t238 _ ?side1 ?side2 A18.out).mono ?_); (case side1 => repeat (first | exact (Kd.R_reads' HO_9.out).2.2 | (with_reducible refine Kd.C_alloc ?_ _) | (with_reducible refine Kd.C_drewN ?_ _) | (with_reducible refine Kd.C_drew ?_))); (case side2 => exact (Kd.R_reads' HO_9.out).2.1); rintro e w23 ⟨rfl, hb⟩; refine ⟨_, rfl, ?_⟩; have n0_ := Aside0.mk (Kd.R_below (by (with_reducible repeat (first | apply Kd.R_alloc | apply Kd.R_drewN | apply Kd.R_drew)); exact HO_8.out) hb); have n1_ := Aside0.mk (Kd.R_below (by (with_reducible repeat (first | apply Kd.R_alloc | apply Kd.R_drewN | apply Kd.R_drew)); exact HO_9.out) hb); have n2_ := Aside0.mk (below_step (by repeat (first | (with_reducible first | exact HB.out | apply below_alloc | apply pw_below_drewN | apply below_drew1) | exact HB.out)) hb); clear HO_8; clear HO_9; clear HB; have HO_8 := n0_; have HO_9 := n1_; have HB := n2_; clear n0_ n1_ n2_; (try clear hb); (try clear hb2); (try clear hk); (try clear hi)))
        (try simp only [Act.put, List.setIfInBounds_toArray, List.set_cons_zero, List.set_cons_succ])
        go_cut [64] (fun v64 wc => ∃ (kq : Nat) (x64_18 : Bool), v64 = .bool x64_18 ∧ Aside0 (letterlocklaw10_TreeOne.j1 kq a2 t229 t235 x64_18 = some r) ∧ Aside0 (kq ≤ kj6) ∧ Aside0 (Kd.R Kd.string 9 wc w.heap.size (fun _ => True) (.slice Ao20 t229.length co20) t229) ∧ Aside0 (Below w.heap.size w wc))
        case first =>
          have H := HC19.out
          clear HC19
          by_cases c24 : t236 = 0
          · rw [if_pos c24] at H
            have c24b0 : (t236 == 0) = true := beq_iff_eq.mpr c24
            have c24b1 : (t236 != 0) = false := bne_eq_false_iff_eq.mpr c24
            clear c24
            (first | rw [c24b0] | (simp only [i64_w, i32_w]; rw [c24b0]) | skip)
            by_cases c25 : t238 = 0
            · rw [if_pos c25] at H
              have c25b0 : (t238 == 0) = true := beq_iff_eq.mpr c25
              have c25b1 : (t238 != 0) = false := bne_eq_false_iff_eq.mpr c25
              clear c25
              replace H := Option.bind_eq_some_iff.mp H
              obtain ⟨t239, A260, H⟩ := H
              replace H : (letterlocklaw10_TreeOne.j1 kj6 a2 t229 t235 ((t235.toList == t237.toList) != t239)) = some r := H
              have A26 := Aside0.mk A260
              clear A260
              have H' := Aside0.mk H
              clear H
              go_wp2_with (first | (go_at_call 12; (with_reducible refine (letterlocklaw10_same.calls kj6 _ _ t229 _ _ t232 t239 _ ?side1 ?side2 ?side3 ?side4 A26.out).mono ?_); (case side1 => repeat (first | exact (Kd.R_reads' HO_8.out).2.2 | (with_reducible refine Kd.C_alloc ?_ _) | (with_reducible refine Kd.C_drewN ?_ _) | (with_reducible refine Kd.C_drew ?_))); (case side2 => exact (Kd.R_reads' HO_8.out).2.1); (case side3 => repeat (first | exact (Kd.R_reads' HO_9.out).2.2 | (with_reducible refine Kd.C_alloc ?_ _) | (with_reducible refine Kd.C_drewN ?_ _) | (with_reducible refine Kd.C_drew ?_))); (case side4 => exact (Kd.R_reads' HO_9.out).2.1); rintro e w' ⟨rfl, ⟨nd, rfl⟩⟩))
              go_meet
              case rel => exact ⟨_, (((t235.toList == t237.toList) != t239)), (by first | rfl | (simp; done) | (simp [*]; done) | (simp; exact isEmpty_ne _)), H', ⟨by have := HJ6.out; first | omega | exact Nat.le_refl _⟩, ⟨by (with_reducible repeat (first | apply Kd.R_alloc | apply Kd.R_drewN | apply Kd.R_drew)); exact Kd.R_mono HO_8.out (fun _ hk => trivial)⟩, ⟨by repeat (first | (with_reducible first | exact HB.out | apply below_alloc | apply pw_below_drewN | apply below_drew1) | exact HB.out)⟩⟩
            · rw [if_neg c25] at H
              have c25b0 : (t238 == 0) = false := beq_eq_false_iff_ne.mpr c25
              have c25b1 : (t238 != 0) = true := bne_iff_ne.mpr c25
              have H' := Aside0.mk H
              clear H
              go_wp2
              go_meet
              case rel => exact ⟨_, (true), (by first | rfl | (simp; done) | (simp [*]; done) | (simp; exact isEmpty_ne _)), H', ⟨by have := HJ6.out; first | omega | exact Nat.le_refl _⟩, ⟨by (with_reducible repeat (first | apply Kd.R_alloc | apply Kd.R_drewN | apply Kd.R_drew)); exact Kd.R_mono HO_8.out (fun _ hk => trivial)⟩, ⟨by repeat (first | (with_reducible first | exact HB.out | apply below_alloc | apply pw_below_drewN | apply below_drew1) | exact HB.out)⟩⟩
          · rw [if_neg c24] at H
            have c24b0 : (t236 == 0) = false := beq_eq_false_iff_ne.mpr c24
            have c24b1 : (t236 != 0) = true := bne_iff_ne.mpr c24
            (first | rw [c24b0] | (simp only [i64_w, i32_w]; rw [c24b0]) | skip)
            have H' := Aside0.mk H
            clear H
            go_wp2
            go_meet
            case rel => exact ⟨_, (true), (by first | rfl | (simp; done) | (simp [*]; done) | (simp; exact isEmpty_ne _)), H', ⟨by have := HJ6.out; first | omega | exact Nat.le_refl _⟩, ⟨by (with_reducible repeat (first | apply Kd.R_alloc | apply Kd.R_drewN | apply Kd.R_drew)); exact Kd.R_mono HO_8.out (fun _ hk => trivial)⟩, ⟨by repeat (first | (with_reducible first | exact HB.out | apply below_alloc | apply pw_below_drewN | apply below_drew1) | exact HB.out)⟩⟩
        case rest =>
          clear HC19
          try clear c1
          try clear c2
          try clear p2
          try clear c3
          try clear c9
          try clear c10
          try clear c11
          try clear c12
          try clear c12b0
          try clear c12b1
          try clear c12b2
          try clear c16
          try clear c24
          try clear c24b0
          try clear c24b1
          try clear c25
          try clear c25b0
          try clear c25b1
          try clear p2
          obtain ⟨kq, x64_18, rfl, HA, HJ18, HO_8, HB⟩ := hcut
          cases kq with
          | zero => exact absurd HA.out (by simp [letterlocklaw10_TreeOne.j1])
          | succ kj18 =>
            have H := HA.out
            clear HA
            simp only [letterlocklaw10_TreeOne.j1] at H
            by_cases c27 : x64_18 = true
            · subst c27
              have H1 : (some false) = some r := by rw [if_pos rfl] at H; exact H
              clear H
              have H := H1
              clear H1
              obtain rfl := Option.some.inj H
              go_wp2
              go_ret
              exact ⟨by first | rfl | (simp [errW_none, errW_some] <;> rfl) | (simp [*, errW_none, errW_some] <;> rfl), by repeat (first | (with_reducible first | exact HB.out | apply below_alloc | apply pw_below_drewN | apply below_drew1) | exact HB.out)⟩
            · replace c27 := Bool.eq_false_iff.mpr c27
              subst c27
              have H1 : ((some (([] : List ByteArray) : List ByteArray)).bind fun y240 => (if y240.length + t229.length < 8796093022208 then ((some (y240 ++ t229 : List ByteArray)).bind fun y243 => ((letterlocklaw10_pick.f a2 (t229.length : Int)).bind fun t246 => ((tree_Leaf.f kj18 (⟨#[111, 116, 104, 101, 114]⟩ : ByteArray) 3).bind fun bt247 => (if 0 ≤ t246 then (if t246 < (y243.length : Int) then ((some (y243.set (t246 : Int).toNat bt247.1 : List ByteArray)).bind fun y249 => ((tree_Root.f kj18 y249).bind fun bt250 => (if bt250.2 = 0 then (if bt250.1.toList = t235.toList then (letterlocklaw10_TreeOne.j2 kj18 t235 y249 bt250.1 true) else ((term_Kind.f bt250.1).bind fun t252 => (letterlocklaw10_TreeOne.j2 kj18 t235 y249 bt250.1 (t252 != 104)))) else (letterlocklaw10_TreeOne.j2 kj18 t235 y249 bt250.1 true)))) else (none)) else (none))))) else (none))) = some r := by rw [if_neg (show ¬ (false = true) by decide)] at H; exact H
              clear H
              have H := H1
              clear H1
              obtain ⟨y240, hy240⟩ : ∃ y_ : List ByteArray, y_ = (([] : List ByteArray)) := ⟨_, rfl⟩
              replace H : (if y240.length + t229.length < 8796093022208 then ((some (y240 ++ t229 : List ByteArray)).bind fun y243 => ((letterlocklaw10_pick.f a2 (t229.length : Int)).bind fun t246 => ((tree_Leaf.f kj18 (⟨#[111, 116, 104, 101, 114]⟩ : ByteArray) 3).bind fun bt247 => (if 0 ≤ t246 then (if t246 < (y243.length : Int) then ((some (y243.set (t246 : Int).toNat bt247.1 : List ByteArray)).bind fun y249 => ((tree_Root.f kj18 y249).bind fun bt250 => (if bt250.2 = 0 then (if bt250.1.toList = t235.toList then (letterlocklaw10_TreeOne.j2 kj18 t235 y249 bt250.1 true) else ((term_Kind.f bt250.1).bind fun t252 => (letterlocklaw10_TreeOne.j2 kj18 t235 y249 bt250.1 (t252 != 104)))) else (letterlocklaw10_TreeOne.j2 kj18 t235 y249 bt250.1 true)))) else (none)) else (none))))) else (none)) = some r := by first | (rw [hy240]; with_reducible exact H) | (have H2_ := (Option.bind_some _ _).symm.trans H; rw [hy240]; with_reducible exact H2_) | (have H2_ := (Option.bind_some _ _).symm.trans H; with_reducible exact H2_) | with_reducible exact H | (rw [hy240]; exact H) | exact H
              have Ny240 := Aside0.mk hy240
              clear hy240
              by_cases c28 : y240.length + t229.length < 8796093022208
              · rw [if_pos c28] at H
                have LMc28 := Aside0.mk c28
                clear c28
                obtain ⟨y243, hy243⟩ : ∃ y_ : List ByteArray, y_ = (y240 ++ t229) := ⟨_, rfl⟩
                replace H : ((letterlocklaw10_pick.f a2 (t229.length : Int)).bind fun t246 => ((tree_Leaf.f kj18 (⟨#[111, 116, 104, 101, 114]⟩ : ByteArray) 3).bind fun bt247 => (if 0 ≤ t246 then (if t246 < (y243.length : Int) then ((some (y243.set (t246 : Int).toNat bt247.1 : List ByteArray)).bind fun y249 => ((tree_Root.f kj18 y249).bind fun bt250 => (if bt250.2 = 0 then (if bt250.1.toList = t235.toList then (letterlocklaw10_TreeOne.j2 kj18 t235 y249 bt250.1 true) else ((term_Kind.f bt250.1).bind fun t252 => (letterlocklaw10_TreeOne.j2 kj18 t235 y249 bt250.1 (t252 != 104)))) else (letterlocklaw10_TreeOne.j2 kj18 t235 y249 bt250.1 true)))) else (none)) else (none)))) = some r := by first | (rw [hy243]; with_reducible exact H) | (have H2_ := (Option.bind_some _ _).symm.trans H; rw [hy243]; with_reducible exact H2_) | (have H2_ := (Option.bind_some _ _).symm.trans H; with_reducible exact H2_) | with_reducible exact H | (rw [hy243]; exact H) | exact H
                have Ny243 := Aside0.mk hy243
                clear hy243
                replace H := Option.bind_eq_some_iff.mp H
                obtain ⟨t246, A290, H⟩ := H
                replace H : ((tree_Leaf.f kj18 (⟨#[111, 116, 104, 101, 114]⟩ : ByteArray) 3).bind fun bt247 => (if 0 ≤ t246 then (if t246 < (y243.length : Int) then ((some (y243.set (t246 : Int).toNat bt247.1 : List ByteArray)).bind fun y249 => ((tree_Root.f kj18 y249).bind fun bt250 => (if bt250.2 = 0 then (if bt250.1.toList = t235.toList then (letterlocklaw10_TreeOne.j2 kj18 t235 y249 bt250.1 true) else ((term_Kind.f bt250.1).bind fun t252 => (letterlocklaw10_TreeOne.j2 kj18 t235 y249 bt250.1 (t252 != 104)))) else (letterlocklaw10_TreeOne.j2 kj18 t235 y249 bt250.1 true)))) else (none)) else (none))) = some r := H
                have A29 := Aside0.mk A290
                clear A290
                replace H := Option.bind_eq_some_iff.mp H
                obtain ⟨⟨t247, t248⟩, A300, H⟩ := H
                replace H : (if 0 ≤ t246 then (if t246 < (y243.length : Int) then ((some (y243.set (t246 : Int).toNat t247 : List ByteArray)).bind fun y249 => ((tree_Root.f kj18 y249).bind fun bt250 => (if bt250.2 = 0 then (if bt250.1.toList = t235.toList then (letterlocklaw10_TreeOne.j2 kj18 t235 y249 bt250.1 true) else ((term_Kind.f bt250.1).bind fun t252 => (letterlocklaw10_TreeOne.j2 kj18 t235 y249 bt250.1 (t252 != 104)))) else (letterlocklaw10_TreeOne.j2 kj18 t235 y249 bt250.1 true)))) else (none)) else (none)) = some r := H
                have A30 := Aside0.mk A300
                clear A300
                by_cases c31 : 0 ≤ t246
                · rw [if_pos c31] at H
                  have c31b0 : decide (0 ≤ t246) = true := decide_eq_true c31
                  clear c31
                  by_cases c32 : t246 < (y243.length : Int)
                  · rw [if_pos c32] at H
                    have c32b0 : decide (t246 < (y243.length : Int)) = true := decide_eq_true c32
                    clear c32
                    obtain ⟨y249, hy249⟩ : ∃ y_ : List ByteArray, y_ = (y243.set (t246 : Int).toNat t247) := ⟨_, rfl⟩
                    replace H : ((tree_Root.f kj18 y249).bind fun bt250 => (if bt250.2 = 0 then (if bt250.1.toList = t235.toList then (letterlocklaw10_TreeOne.j2 kj18 t235 y249 bt250.1 true) else ((term_Kind.f bt250.1).bind fun t252 => (letterlocklaw10_TreeOne.j2 kj18 t235 y249 bt250.1 (t252 != 104)))) else (letterlocklaw10_TreeOne.j2 kj18 t235 y249 bt250.1 true))) = some r := by first | (rw [hy249]; with_reducible exact H) | (have H2_ := (Option.bind_some _ _).symm.trans H; rw [hy249]; with_reducible exact H2_) | (have H2_ := (Option.bind_some _ _).symm.trans H; with_reducible exact H2_) | with_reducible exact H | (rw [hy249]; exact H) | exact H
                    have Ny249 := Aside0.mk hy249
                    clear hy249
                    replace H := Option.bind_eq_some_iff.mp H
                    obtain ⟨⟨t250, t251⟩, A340, H⟩ := H
                    replace H : (if t251 = 0 then (if t250.toList = t235.toList then (letterlocklaw10_TreeOne.j2 kj18 t235 y249 t250 true) else ((term_Kind.f t250).bind fun t252 => (letterlocklaw10_TreeOne.j2 kj18 t235 y249 t250 (t252 != 104)))) else (letterlocklaw10_TreeOne.j2 kj18 t235 y249 t250 true)) = some r := H
                    have A34 := Aside0.mk A340
                    clear A340
                    have HC35 := Aside0.mk H
                    clear H
                    go_upto_region 15 with (first | ((with_reducible refine gate_dst (N := 65) rfl ?_); (try (refine gate_guard (by rfl) ?_; dsimp only)); refine Kd.R_lit Kd.string _ 9 ?hg (N := 65) ?hd (xs := ([] : List ByteArray)) (inner := []) (ok := fun _ => True) (okp := fun _ => True) ?hr ?hp (fun _ hk => hk) trivial (Below.refl _ _) (Nat.le_refl _) (by simp) ?_; (case hd => rfl); (case hg => rfl); (case hr => first | (go_simp; done) | (go_simp; rfl)); (case hp => exact (Reps.none _ _)); intro v241 w36 ho37 hb hg_ hnew_; clear hg_ hnew_; (first | rw [← Ny240.out] at ho37 | (simp only [Int.reduceToNat] at ho37; rw [← Ny240.out] at ho37)); have n0_ := Aside0.mk (Kd.R_elder' (by (with_reducible repeat (first | apply Kd.R_alloc | apply Kd.R_drewN | apply Kd.R_drew)); exact HO_8.out) (Kd.R_base ho37) hb); have n1_ := Aside0.mk (Kd.R_lower (Kd.R_new' ho37 (Kd.R_lt (by (with_reducible repeat (first | apply Kd.R_alloc | apply Kd.R_drewN | apply Kd.R_drew)); exact HO_8.out))) (below_size (by repeat (first | (with_reducible first | exact HB.out | apply below_alloc | apply pw_below_drewN | apply below_drew1) | exact HB.out)))); have n2_ := Aside0.mk (below_step (by repeat (first | (with_reducible first | exact HB.out | apply below_alloc | apply pw_below_drewN | apply below_drew1) | exact HB.out)) hb); clear HO_8; clear HB; have HO_8 := n0_; have HO242 := n1_; have HB := n2_; clear n0_ n1_ n2_; clear hb ho37) | ((with_reducible refine gate_builtin (b := .append) (xs := #[.tmp 65, .tmp 66]) rfl ?_); (try (refine gate_guard (by rfl) ?_; dsimp only)); at_builtin; refine Kd.R_append_rows Kd.string (w0 := w) w.heap.size rfl (.tmp 65) (.tmp 66) 24 9 (.string ⟨#[]⟩) 16 rfl Try.underlying24 info9 rfl (by decide) (by omega) v241 y240 t229 _ _ _ (fun k_ => some k_ ≠ (.slice Ao20 t229.length co20 : Value).ownBlock) (fun _ => False) rfl rfl ?aO ?aR (fun _ _ h => h) (fun _ h => h.elim) ?aF ?aB ?aS ?aL ?_; (case aR => repeat (first | exact (Kd.R_reads' HO_8.out).2.2 | (with_reducible refine Kd.C_alloc ?_ _) | (with_reducible refine Kd.C_drewN ?_ _) | (with_reducible refine Kd.C_drew ?_))); (case aB => exact (by repeat (first | (with_reducible first | exact HB.out | apply below_alloc | apply pw_below_drewN | apply below_drew1) | exact HB.out))); (case aF => exact (fun k_ hk => Kd.fresh' (Kd.R_lt (by (with_reducible repeat (first | apply Kd.R_alloc | apply Kd.R_drewN | apply Kd.R_drew)); exact HO_8.out)) k_ hk)); (case aO => exact (by (with_reducible repeat (first | apply Kd.R_alloc | apply Kd.R_drewN | apply Kd.R_drew)); exact Kd.R_mono HO242.out (fun _ hk => hk.2))); (case aS => exact (below_size (by repeat (first | (with_reducible first | exact HB.out | apply below_alloc | apply pw_below_drewN | apply below_drew1) | exact HB.out)))); (case aL => have := LMc28.out; omega); intro v244 w38 ho hb hg hat; rw [← Ny243.out] at ho; have n0_ := Aside0.mk (Kd.R_after (ok := (fun _ => True)) (by (with_reducible repeat (first | apply Kd.R_alloc | apply Kd.R_drewN | apply Kd.R_drew)); exact HO_8.out) hg hat); have n1_ := Aside0.mk (hb); have n2_ := Aside0.mk (ho); clear HO_8; clear HB; clear HO242; have HO_8 := n0_; have HB := n1_; have HO245 := n2_; clear n0_ n1_ n2_; clear ho hb hg hat) | ((with_reducible refine gate_callee (f := 13) rfl ?_); refine goesL_ (some 71) rfl rfl Try.func13 (by kernel_rfl) rfl #[.int .i64 a2, .int .i64 (t229.length : Int)] rfl (by (try simp only [List.map_toArray, List.map_cons, List.map_nil]); first | done | rfl | (simp only [List.length_drop, List.length_take]; rfl)) ?_; (with_reducible refine (letterlocklaw10_pick.calls a2 (t229.length : Int) t246 _ A29.out).mono ?_); rintro e w' ⟨rfl, ⟨nd, rfl⟩⟩; refine ⟨_, rfl, ?_⟩; (try (rw [drewN_self w38]; generalize hq_ : World.drewN w38 _ = w38; have n0_ : Aside0 (Kd.R Kd.string 9 w38 w.heap.size (fun k_ => some k_ ≠ (.slice Ao20 t229.length co20 : Value).ownBlock) v244 y243) := ⟨by rw [← hq_]; exact (by (with_reducible repeat (first | apply Kd.R_alloc | apply Kd.R_drewN | apply Kd.R_drew)); exact HO245.out)⟩; have n1_ : Aside0 (Kd.R Kd.string 9 w38 w.heap.size (fun k_ => some k_ ≠ (v244 : Value).ownBlock) (.slice Ao20 t229.length co20) t229) := ⟨by rw [← hq_]; exact (by (with_reducible repeat (first | apply Kd.R_alloc | apply Kd.R_drewN | apply Kd.R_drew)); exact Kd.R_mono HO_8.out (fun _ hk => hk.2))⟩; have n2_ : Aside0 (Below w.heap.size w w38) := ⟨by rw [← hq_]; exact (by repeat (first | (with_reducible first | exact HB.out | apply below_alloc | apply pw_below_drewN | apply below_drew1) | exact HB.out))⟩; clear HO245 HO_8 HB hq_; have HO245 := n0_; have HO_8 := n1_; have HB := n2_; clear n0_ n1_ n2_))) | ((with_reducible refine gate_callee (f := 14) rfl ?_); refine goesL_ (some 73) rfl rfl Try.func14 (by kernel_rfl) rfl #[.string (⟨#[111, 116, 104, 101, 114]⟩ : ByteArray), .int .u64 3] rfl (by (try simp only [List.map_toArray, List.map_cons, List.map_nil]); first | done | rfl | (simp only [List.length_drop, List.length_take]; rfl)) ?_; (with_reducible refine (tree_Leaf.calls kj18 (⟨#[111, 116, 104, 101, 114]⟩ : ByteArray) 3 t247 t248 _ A30.out).mono ?_); rintro e w39 ⟨rfl, hb⟩; refine ⟨_, rfl, ?_⟩; have n0_ := Aside0.mk (Kd.R_below (by (with_reducible repeat (first | apply Kd.R_alloc | apply Kd.R_drewN | apply Kd.R_drew)); exact HO_8.out) hb); have n1_ := Aside0.mk (Kd.R_below (by (with_reducible repeat (first | apply Kd.R_alloc | apply Kd.R_drewN | apply Kd.R_drew)); exact HO245.out) hb); have n2_ := Aside0.mk (below_step (by repeat (first | (with_reducible first | exact HB.out | apply below_alloc | apply pw_below_drewN | apply below_drew1) | exact HB.out)) hb); clear HO_8; clear HO245; clear HB; have HO_8 := n0_; have HO245 := n1_; have HB := n2_; clear n0_ n1_ n2_; (try clear hb); (try clear hb2); (try clear hk); (try clear hi); have p33 : 0 ≤ (t246 : Int) := of_decide_eq_true (by first | (with_reducible assumption) | assumption); have q33 : (t246 : Int) < ((y243.length : Int) : Int) := of_decide_eq_true (by first | (with_reducible assumption) | assumption); obtain ⟨go33, co33, eo33, gb33, gl33, cl33, HG33⟩ := Kd.R_form HO245.out (by omega); (first | cases eo33 | (injection eo33 with ea_ en_ ec_; (first | subst ea_ | (injection ea_ with ea_; subst ea_)); subst ec_; clear en_)); have GB33 := Aside0.mk gb33; have GG33 := Aside0.mk HG33; clear gb33 gl33 HG33; obtain ⟨hx33_0, hf33_0⟩ := Kd.R_celln (⟨#[]⟩ : ByteArray) HO245.out (t246 : Int) p33 q33; replace p33 := eq_true p33; replace q33 := eq_true q33; obtain ⟨hy40_, hz40_⟩ := Kd.R_celln (⟨#[]⟩ : ByteArray) HO245.out (t246 : Int) (of_decide_eq_true (by first | (with_reducible assumption) | assumption)) (of_decide_eq_true (by first | (with_reducible assumption) | assumption)); have HP40 := Kd.R_putg HO245.out (t246 : Int) t247) | ((with_reducible refine gate_store (t := 9) (p := 79) rfl ?_); refine store_event (t := 9) (p := 79) (v := ?vo_w41) (w1 := (w39.setCell ⟨go33, (t246 : Int).toNat, none⟩ (.string t247))) ?hg ?ho ?hn ?hr ?_; (case ho => rfl); (case hg => rfl); (case hn => rfl); (case hr => first | (go_simp; done) | (go_simp; rfl)); intro w41 hw; have hg : w39.grownBy w41 (some go33) := (by rw [hw]; exact HP40.2); have hp_ : Kd.R Kd.string 9 w41 w.heap.size (fun k_ => some k_ ≠ (.slice Ao20 t229.length co20 : Value).ownBlock) (.slice (some ⟨go33, 0, none⟩) y243.length co33) y249 := (by rw [hw, Ny249.out]; exact HP40.1); clear HP40; have n0_ := Aside0.mk (Kd.R_after (v := (.slice (some ⟨go33, 0, none⟩) y243.length co33)) (v1 := (.slice (some ⟨go33, 0, none⟩) y243.length co33)) (ok := (fun _ => True)) (by (with_reducible repeat (first | apply Kd.R_alloc | apply Kd.R_drewN | apply Kd.R_drew)); (first | exact HO_8.out | exact Kd.R_mono HO_8.out (fun _ hk => ⟨trivial, hk⟩))) hg (.inl rfl)); have n1_ := Aside0.mk (hp_); have n2_ := Aside0.mk ((by rw [hw]; exact below_set (HB.out) GB33.out : Below w.heap.size w w41)); clear HO_8; clear HO245; clear HB; have HO_8 := n0_; have HO245 := n1_; have HB := n2_; clear n0_ n1_ n2_; clear hg hw hp_) | ((with_reducible refine gate_callee (f := 11) rfl ?_); refine goesL_ (some 82) rfl rfl Try.func11 (by kernel_rfl) rfl #[.slice (some ⟨go33, 0, none⟩) y249.length co33] rfl (by (try simp only [List.map_toArray, List.map_cons, List.map_nil]); first | done | (rw [show y249.length = y243.length from (Kd.R_reads' HO245.out).1.symm] <;> rfl) | rfl | (simp only [List.length_drop, List.length_take]; rfl)) ?_; (with_reducible refine (tree_Root.calls kj18 _ _ y249 t250 t251 _ ?side1 ?side2 A34.out).mono ?_); (case side1 => repeat (first | exact (Kd.R_reads' HO245.out).2.2 | (with_reducible refine Kd.C_alloc ?_ _) | (with_reducible refine Kd.C_drewN ?_ _) | (with_reducible refine Kd.C_drew ?_))); (case side2 => rw [show y249.length = y243.length from (Kd.R_reads' HO245.out).1.symm]; exact (Kd.R_reads' HO245.out).2.1); rintro e w42 ⟨rfl, hb⟩; refine ⟨_, rfl, ?_⟩; have n0_ := Aside0.mk (Kd.R_below (by (with_reducible repeat (first | apply Kd.R_alloc | apply Kd.R_drewN | apply Kd.R_drew)); exact HO_8.out) hb); have n1_ := Aside0.mk (Kd.R_below (by (with_reducible repeat (first | apply Kd.R_alloc | apply Kd.R_drewN | apply Kd.R_drew)); exact HO245.out) hb); have n2_ := Aside0.mk (below_step (by repeat (first | (with_reducible first | exact HB.out | apply below_alloc | apply pw_below_drewN | apply below_drew1) | exact HB.out)) hb); clear HO_8; clear HO245; clear HB; have HO_8 := n0_; have HO245 := n1_; have HB := n2_; clear n0_ n1_ n2_; (try clear hb); (try clear hb2); (try clear hk); (try clear hi)))
                    (try simp only [Act.put, List.setIfInBounds_toArray, List.set_cons_zero, List.set_cons_succ])
                    go_cut [96] (fun v96 wc => ∃ (kq : Nat) (x96_34 : Bool), v96 = .bool x96_34 ∧ Aside0 (letterlocklaw10_TreeOne.j2 kq t235 y249 t250 x96_34 = some r) ∧ Aside0 (kq ≤ kj18) ∧ Aside0 (Kd.R Kd.string 9 wc w.heap.size (fun _ => True) (.slice (some ⟨go33, 0, none⟩) y243.length co33) y249) ∧ Aside0 (Below w.heap.size w wc))
                    case first =>
                      have H := HC35.out
                      clear HC35
                      by_cases c43 : t251 = 0
                      · rw [if_pos c43] at H
                        have c43b0 : (t251 == 0) = true := beq_iff_eq.mpr c43
                        have c43b1 : (t251 != 0) = false := bne_eq_false_iff_eq.mpr c43
                        clear c43
                        (first | rw [c43b0] | (simp only [i64_w, i32_w]; rw [c43b0]) | skip)
                        by_cases c44 : t250.toList = t235.toList
                        · rw [if_pos c44] at H
                          have c44b0 : (t250.toList == t235.toList) = true := beq_iff_eq.mpr c44
                          have c44b1 : (t250.toList != t235.toList) = false := bne_eq_false_iff_eq.mpr c44
                          clear c44
                          have H' := Aside0.mk H
                          clear H
                          go_wp2
                          go_meet
                          case rel => exact ⟨_, (true), (by first | rfl | (simp; done) | (simp [*]; done) | (simp; exact isEmpty_ne _)), H', ⟨by have := HJ6.out; have := HJ18.out; first | omega | exact Nat.le_refl _⟩, ⟨by (with_reducible repeat (first | apply Kd.R_alloc | apply Kd.R_drewN | apply Kd.R_drew)); exact Kd.R_mono HO245.out (fun _ hk => trivial)⟩, ⟨by repeat (first | (with_reducible first | exact HB.out | apply below_alloc | apply pw_below_drewN | apply below_drew1) | exact HB.out)⟩⟩
                        · rw [if_neg c44] at H
                          have c44b0 : (t250.toList == t235.toList) = false := beq_eq_false_iff_ne.mpr c44
                          have c44b1 : (t250.toList != t235.toList) = true := bne_iff_ne.mpr c44
                          replace H := Option.bind_eq_some_iff.mp H
                          obtain ⟨t252, A450, H⟩ := H
                          replace H : (letterlocklaw10_TreeOne.j2 kj18 t235 y249 t250 (t252 != 104)) = some r := H
                          have A45 := Aside0.mk A450
                          clear A450
                          have H' := Aside0.mk H
                          clear H
                          go_wp2_with (first | (go_at_call 15; (with_reducible refine (term_Kind.calls t250 t252 _ A45.out).mono ?_); rintro e w46 ⟨rfl, hb⟩; have n0_ := Aside0.mk (Kd.R_below (by (with_reducible repeat (first | apply Kd.R_alloc | apply Kd.R_drewN | apply Kd.R_drew)); exact HO_8.out) hb); have n1_ := Aside0.mk (Kd.R_below (by (with_reducible repeat (first | apply Kd.R_alloc | apply Kd.R_drewN | apply Kd.R_drew)); exact HO245.out) hb); have n2_ := Aside0.mk (below_step (by repeat (first | (with_reducible first | exact HB.out | apply below_alloc | apply pw_below_drewN | apply below_drew1) | exact HB.out)) hb); clear HO_8; clear HO245; clear HB; have HO_8 := n0_; have HO245 := n1_; have HB := n2_; clear n0_ n1_ n2_; (try clear hb); (try clear hb2); (try clear hk); (try clear hi)))
                          go_meet
                          case rel => exact ⟨_, ((t252 != 104)), (by first | rfl | (simp; done) | (simp [*]; done) | (simp; exact isEmpty_ne _)), H', ⟨by have := HJ6.out; have := HJ18.out; first | omega | exact Nat.le_refl _⟩, ⟨by (with_reducible repeat (first | apply Kd.R_alloc | apply Kd.R_drewN | apply Kd.R_drew)); exact Kd.R_mono HO245.out (fun _ hk => trivial)⟩, ⟨by repeat (first | (with_reducible first | exact HB.out | apply below_alloc | apply pw_below_drewN | apply below_drew1) | exact HB.out)⟩⟩
                      · rw [if_neg c43] at H
                        have c43b0 : (t251 == 0) = false := beq_eq_false_iff_ne.mpr c43
                        have c43b1 : (t251 != 0) = true := bne_iff_ne.mpr c43
                        (first | rw [c43b0] | (simp only [i64_w, i32_w]; rw [c43b0]) | skip)
                        have H' := Aside0.mk H
                        clear H
                        go_wp2
                        go_meet
                        case rel => exact ⟨_, (true), (by first | rfl | (simp; done) | (simp [*]; done) | (simp; exact isEmpty_ne _)), H', ⟨by have := HJ6.out; have := HJ18.out; first | omega | exact Nat.le_refl _⟩, ⟨by (with_reducible repeat (first | apply Kd.R_alloc | apply Kd.R_drewN | apply Kd.R_drew)); exact Kd.R_mono HO245.out (fun _ hk => trivial)⟩, ⟨by repeat (first | (with_reducible first | exact HB.out | apply below_alloc | apply pw_below_drewN | apply below_drew1) | exact HB.out)⟩⟩
                    case rest =>
                      clear HC35
                      try clear c1
                      try clear c2
                      try clear p2
                      try clear c3
                      try clear p3
                      try clear q3
                      try clear hx3
                      try clear hf3
                      try clear c4
                      try clear c9
                      try clear c10
                      try clear c11
                      try clear c12
                      try clear c12b0
                      try clear c12b1
                      try clear c12b2
                      try clear c13
                      try clear c14
                      try clear c16
                      try clear c24
                      try clear c24b0
                      try clear c24b1
                      try clear c25
                      try clear c25b0
                      try clear c25b1
                      try clear c27
                      try clear c28
                      try clear c31
                      try clear c31b0
                      try clear c32
                      try clear c32b0
                      try clear p33
                      try clear q33
                      try clear hx33
                      try clear hf33
                      try clear c43
                      try clear c43b0
                      try clear c43b1
                      try clear c44
                      try clear c44b0
                      try clear c44b1
                      try clear hx33_0
                      try clear p2
                      try clear p33
                      try clear q33
                      obtain ⟨kq, x96_34, rfl, HA, HJ34, HO_14, HB⟩ := hcut
                      have hl14_34 := (Kd.R_reads' HO_14.out).1
                      rw [hl14_34] at HO_14
                      (try simp only [hl14_34])
                      cases kq with
                      | zero => exact absurd HA.out (by simp [letterlocklaw10_TreeOne.j2])
                      | succ kj34 =>
                        have H := HA.out
                        clear HA
                        simp only [letterlocklaw10_TreeOne.j2] at H
                        by_cases c47 : x96_34 = true
                        · subst c47
                          have H1 : (some false) = some r := by rw [if_pos rfl] at H; exact H
                          clear H
                          have H := H1
                          clear H1
                          obtain rfl := Option.some.inj H
                          go_wp2
                          go_ret
                          exact ⟨by first | rfl | (simp [errW_none, errW_some] <;> rfl) | (simp [*, errW_none, errW_some] <;> rfl), by repeat (first | (with_reducible first | exact HB.out | apply below_alloc | apply pw_below_drewN | apply below_drew1) | exact HB.out)⟩
                        · replace c47 := Bool.eq_false_iff.mpr c47
                          subst c47
                          have H1 : (if 0 ≤ (wrap64 ((y249.length : Int) - 1)) then (if (wrap64 ((y249.length : Int) - 1)) ≤ (y249.length : Int) then ((tree_Root.f kj34 (y249.take ((wrap64 ((y249.length : Int) - 1)) : Int).toNat)).bind fun bt257 => (if (y249.length : Int) = 1 then (if bt257.2 = 1 then (some (bt257.1.toList == ([] : List UInt8))) else (some false)) else (if bt257.2 = 0 then (if bt257.1.toList = t250.toList then (some false) else (some (bt257.1.toList != t235.toList))) else (some false)))) else (none)) else (none)) = some r := by rw [if_neg (show ¬ (false = true) by decide)] at H; exact H
                          clear H
                          have H := H1
                          clear H1
                          obtain ⟨ji48, hji48⟩ : ∃ j_ : Int, (wrap64 ((y249.length : Int) - 1)) = j_ := ⟨_, rfl⟩
                          replace H : (if 0 ≤ (ji48) then (if (ji48) ≤ (y249.length : Int) then ((tree_Root.f kj34 (y249.take ((ji48) : Int).toNat)).bind fun bt257 => (if (y249.length : Int) = 1 then (if bt257.2 = 1 then (some (bt257.1.toList == ([] : List UInt8))) else (some false)) else (if bt257.2 = 0 then (if bt257.1.toList = t250.toList then (some false) else (some (bt257.1.toList != t235.toList))) else (some false)))) else (none)) else (none)) = some r := by first | (rw [hji48] at H; exact H) | (simp only [hji48] at H ⊢; exact H)
                          have hji48w : (IntKind.i64.wrap ((y249.length : Int) - 1)) = ji48 := (i64_w _).trans hji48
                          by_cases c49 : 0 ≤ (ji48)
                          · rw [if_pos c49] at H
                            have c49b0 := eq_true c49
                            have c49b1 : decide (0 ≤ (ji48)) = true := decide_eq_true c49
                            clear c49
                            by_cases c50 : (ji48) ≤ (y249.length : Int)
                            · rw [if_pos c50] at H
                              have c50b0 := eq_true c50
                              have c50b1 : decide ((ji48) ≤ (y249.length : Int)) = true := decide_eq_true c50
                              clear c50
                              obtain ⟨y253, hy253⟩ : ∃ y_ : List ByteArray, y_ = (y249.take ((ji48) : Int).toNat) := ⟨_, rfl⟩
                              replace H : ((tree_Root.f kj34 y253).bind fun bt257 => (if (y249.length : Int) = 1 then (if bt257.2 = 1 then (some (bt257.1.toList == ([] : List UInt8))) else (some false)) else (if bt257.2 = 0 then (if bt257.1.toList = t250.toList then (some false) else (some (bt257.1.toList != t235.toList))) else (some false)))) = some r := by first | (rw [hy253]; with_reducible exact H) | (have H2_ := (Option.bind_some _ _).symm.trans H; rw [hy253]; with_reducible exact H2_) | (have H2_ := (Option.bind_some _ _).symm.trans H; with_reducible exact H2_) | with_reducible exact H | (rw [hy253]; exact H) | exact H
                              have Ny253 := Aside0.mk hy253
                              clear hy253
                              replace H := Option.bind_eq_some_iff.mp H
                              obtain ⟨⟨t257, t258⟩, A510, H⟩ := H
                              replace H : (if (y249.length : Int) = 1 then (if t258 = 1 then (some (t257.toList == ([] : List UInt8))) else (some false)) else (if t258 = 0 then (if t257.toList = t250.toList then (some false) else (some (t257.toList != t235.toList))) else (some false))) = some r := H
                              have A51 := Aside0.mk A510
                              clear A510
                              by_cases c52 : (y249.length : Int) = 1
                              · rw [if_pos c52] at H
                                have c52b0 : ((y249.length : Int) == 1) = true := beq_iff_eq.mpr c52
                                have c52b1 : ((y249.length : Int) != 1) = false := bne_eq_false_iff_eq.mpr c52
                                clear c52
                                by_cases c53 : t258 = 1
                                · rw [if_pos c53] at H
                                  have c53b0 : (t258 == 1) = true := beq_iff_eq.mpr c53
                                  have c53b1 : (t258 != 1) = false := bne_eq_false_iff_eq.mpr c53
                                  clear c53
                                  obtain rfl := Option.some.inj H
                                  have q54 : ((ji48) : Int) ≤ ((y249.length : Int) : Int) := of_decide_eq_true (by first | (with_reducible assumption) | assumption)
                                  obtain ⟨i054, hi054, _, hsz54, _⟩ := info_parts info9
                                  have hroom54 : y249.length ≤ co33 := (Kd.R_reads' HO_14.out).2.1
                                  have hC54 : Kd.C Kd.string _ (some ⟨go33, 0, none⟩) y249.length y249 := (Kd.R_reads' HO_14.out).2.2
                                  have hcut54 := cut_to (P := Try.prog) 24 9 .i64 Try.underlying24 hi054 (some ⟨go33, 0, none⟩) y249.length co33 (ji48) (of_decide_eq_true (by first | (with_reducible assumption) | assumption)) q54 hroom54
                                  have hr54 := Kd.C_take (m := ((ji48) : Int).toNat) hC54 (by omega)
                                  have hy54 : y253.length = ((ji48) : Int).toNat := (by rw [Ny253.out, List.length_take]; omega)
                                  rw [← Ny253.out] at hr54
                                  rw [← hy54] at hcut54
                                  have HR256 := Aside0.mk hr54
                                  have HC256 := Aside0.mk (show y253.length ≤ co33 from by omega)
                                  clear hr54 hC54 hroom54 hi054 hsz54
                                  have KY54 := Aside0.mk hy54
                                  clear hy54
                                  have KL54 := Aside0.mk (show ((ji48) : Int).toNat ≤ y249.length from by omega)
                                  replace q54 := eq_true q54
                                  go_wp2_with (first | ((with_reducible refine gate_callee (f := 11) rfl ?_); refine goesL_ (some 103) rfl rfl Try.func11 (by kernel_rfl) rfl #[.slice (some ⟨go33, 0, none⟩) y253.length co33] rfl (by (try simp only [List.map_toArray, List.map_cons, List.map_nil]); first | done | rfl | (simp only [List.length_drop, List.length_take]; rfl)) ?_; (with_reducible refine (tree_Root.calls kj34 _ _ y253 t257 t258 _ ?side1 ?side2 A51.out).mono ?_); (case side1 => repeat (first | exact (by repeat (first | (with_reducible exact HR256.out) | (with_reducible refine Kd.C_alloc ?_ _) | (with_reducible refine Kd.C_drewN ?_ _) | (with_reducible refine Kd.C_drew ?_) | exact HR256.out)) | (with_reducible refine Kd.C_alloc ?_ _) | (with_reducible refine Kd.C_drewN ?_ _) | (with_reducible refine Kd.C_drew ?_))); (case side2 => exact HC256.out); rintro e w55 ⟨rfl, hb⟩; refine ⟨_, rfl, ?_⟩; have n0_ := Aside0.mk (Kd.R_below (by (with_reducible repeat (first | apply Kd.R_alloc | apply Kd.R_drewN | apply Kd.R_drew)); exact HO_14.out) hb); have n1_ := Aside0.mk (Kd.C_below (by repeat (first | (with_reducible exact HR256.out) | (with_reducible refine Kd.C_alloc ?_ _) | (with_reducible refine Kd.C_drewN ?_ _) | (with_reducible refine Kd.C_drew ?_) | exact HR256.out)) hb); have n2_ := Aside0.mk (below_step (by repeat (first | (with_reducible first | exact HB.out | apply below_alloc | apply pw_below_drewN | apply below_drew1) | exact HB.out)) hb); clear HO_14; clear HR256; clear HB; have HO_14 := n0_; have HR256 := n1_; have HB := n2_; clear n0_ n1_ n2_; (try clear hb); (try clear hb2); (try clear hk); (try clear hi)))
                                  go_ret
                                  exact ⟨by first | rfl | (simp [errW_none, errW_some] <;> rfl) | (simp only [← hji48]; first | rfl | (simp [errW_none, errW_some] <;> rfl)) | (simp [*, errW_none, errW_some] <;> rfl), by repeat (first | (with_reducible first | exact HB.out | apply below_alloc | apply pw_below_drewN | apply below_drew1) | exact HB.out)⟩
                                · rw [if_neg c53] at H
                                  have c53b0 : (t258 == 1) = false := beq_eq_false_iff_ne.mpr c53
                                  have c53b1 : (t258 != 1) = true := bne_iff_ne.mpr c53
                                  obtain rfl := Option.some.inj H
                                  have q56 : ((ji48) : Int) ≤ ((y249.length : Int) : Int) := of_decide_eq_true (by first | (with_reducible assumption) | assumption)
                                  obtain ⟨i056, hi056, _, hsz56, _⟩ := info_parts info9
                                  have hroom56 : y249.length ≤ co33 := (Kd.R_reads' HO_14.out).2.1
                                  have hC56 : Kd.C Kd.string _ (some ⟨go33, 0, none⟩) y249.length y249 := (Kd.R_reads' HO_14.out).2.2
                                  have hcut56 := cut_to (P := Try.prog) 24 9 .i64 Try.underlying24 hi056 (some ⟨go33, 0, none⟩) y249.length co33 (ji48) (of_decide_eq_true (by first | (with_reducible assumption) | assumption)) q56 hroom56
                                  have hr56 := Kd.C_take (m := ((ji48) : Int).toNat) hC56 (by omega)
                                  have hy56 : y253.length = ((ji48) : Int).toNat := (by rw [Ny253.out, List.length_take]; omega)
                                  rw [← Ny253.out] at hr56
                                  rw [← hy56] at hcut56
                                  have HR256 := Aside0.mk hr56
                                  have HC256 := Aside0.mk (show y253.length ≤ co33 from by omega)
                                  clear hr56 hC56 hroom56 hi056 hsz56
                                  have KY56 := Aside0.mk hy56
                                  clear hy56
                                  have KL56 := Aside0.mk (show ((ji48) : Int).toNat ≤ y249.length from by omega)
                                  replace q56 := eq_true q56
                                  go_wp2_with (first | ((with_reducible refine gate_callee (f := 11) rfl ?_); refine goesL_ (some 103) rfl rfl Try.func11 (by kernel_rfl) rfl #[.slice (some ⟨go33, 0, none⟩) y253.length co33] rfl (by (try simp only [List.map_toArray, List.map_cons, List.map_nil]); first | done | rfl | (simp only [List.length_drop, List.length_take]; rfl)) ?_; (with_reducible refine (tree_Root.calls kj34 _ _ y253 t257 t258 _ ?side1 ?side2 A51.out).mono ?_); (case side1 => repeat (first | exact (by repeat (first | (with_reducible exact HR256.out) | (with_reducible refine Kd.C_alloc ?_ _) | (with_reducible refine Kd.C_drewN ?_ _) | (with_reducible refine Kd.C_drew ?_) | exact HR256.out)) | (with_reducible refine Kd.C_alloc ?_ _) | (with_reducible refine Kd.C_drewN ?_ _) | (with_reducible refine Kd.C_drew ?_))); (case side2 => exact HC256.out); rintro e w57 ⟨rfl, hb⟩; refine ⟨_, rfl, ?_⟩; have n0_ := Aside0.mk (Kd.R_below (by (with_reducible repeat (first | apply Kd.R_alloc | apply Kd.R_drewN | apply Kd.R_drew)); exact HO_14.out) hb); have n1_ := Aside0.mk (Kd.C_below (by repeat (first | (with_reducible exact HR256.out) | (with_reducible refine Kd.C_alloc ?_ _) | (with_reducible refine Kd.C_drewN ?_ _) | (with_reducible refine Kd.C_drew ?_) | exact HR256.out)) hb); have n2_ := Aside0.mk (below_step (by repeat (first | (with_reducible first | exact HB.out | apply below_alloc | apply pw_below_drewN | apply below_drew1) | exact HB.out)) hb); clear HO_14; clear HR256; clear HB; have HO_14 := n0_; have HR256 := n1_; have HB := n2_; clear n0_ n1_ n2_; (try clear hb); (try clear hb2); (try clear hk); (try clear hi)))
                                  go_ret
                                  exact ⟨by first | rfl | (simp [errW_none, errW_some] <;> rfl) | (simp only [← hji48]; first | rfl | (simp [errW_none, errW_some] <;> rfl)) | (simp [*, errW_none, errW_some] <;> rfl), by repeat (first | (with_reducible first | exact HB.out | apply below_alloc | apply pw_below_drewN | apply below_drew1) | exact HB.out)⟩
                              · rw [if_neg c52] at H
                                have c52b0 : ((y249.length : Int) == 1) = false := beq_eq_false_iff_ne.mpr c52
                                have c52b1 : ((y249.length : Int) != 1) = true := bne_iff_ne.mpr c52
                                by_cases c58 : t258 = 0
                                · rw [if_pos c58] at H
                                  have c58b0 : (t258 == 0) = true := beq_iff_eq.mpr c58
                                  have c58b1 : (t258 != 0) = false := bne_eq_false_iff_eq.mpr c58
                                  clear c58
                                  by_cases c59 : t257.toList = t250.toList
                                  · rw [if_pos c59] at H
                                    have c59b0 : (t257.toList == t250.toList) = true := beq_iff_eq.mpr c59
                                    have c59b1 : (t257.toList != t250.toList) = false := bne_eq_false_iff_eq.mpr c59
                                    clear c59
                                    obtain rfl := Option.some.inj H
                                    have q60 : ((ji48) : Int) ≤ ((y249.length : Int) : Int) := of_decide_eq_true (by first | (with_reducible assumption) | assumption)
                                    obtain ⟨i060, hi060, _, hsz60, _⟩ := info_parts info9
                                    have hroom60 : y249.length ≤ co33 := (Kd.R_reads' HO_14.out).2.1
                                    have hC60 : Kd.C Kd.string _ (some ⟨go33, 0, none⟩) y249.length y249 := (Kd.R_reads' HO_14.out).2.2
                                    have hcut60 := cut_to (P := Try.prog) 24 9 .i64 Try.underlying24 hi060 (some ⟨go33, 0, none⟩) y249.length co33 (ji48) (of_decide_eq_true (by first | (with_reducible assumption) | assumption)) q60 hroom60
                                    have hr60 := Kd.C_take (m := ((ji48) : Int).toNat) hC60 (by omega)
                                    have hy60 : y253.length = ((ji48) : Int).toNat := (by rw [Ny253.out, List.length_take]; omega)
                                    rw [← Ny253.out] at hr60
                                    rw [← hy60] at hcut60
                                    have HR256 := Aside0.mk hr60
                                    have HC256 := Aside0.mk (show y253.length ≤ co33 from by omega)
                                    clear hr60 hC60 hroom60 hi060 hsz60
                                    have KY60 := Aside0.mk hy60
                                    clear hy60
                                    have KL60 := Aside0.mk (show ((ji48) : Int).toNat ≤ y249.length from by omega)
                                    replace q60 := eq_true q60
                                    go_wp2_with (first | ((with_reducible refine gate_callee (f := 11) rfl ?_); refine goesL_ (some 103) rfl rfl Try.func11 (by kernel_rfl) rfl #[.slice (some ⟨go33, 0, none⟩) y253.length co33] rfl (by (try simp only [List.map_toArray, List.map_cons, List.map_nil]); first | done | rfl | (simp only [List.length_drop, List.length_take]; rfl)) ?_; (with_reducible refine (tree_Root.calls kj34 _ _ y253 t257 t258 _ ?side1 ?side2 A51.out).mono ?_); (case side1 => repeat (first | exact (by repeat (first | (with_reducible exact HR256.out) | (with_reducible refine Kd.C_alloc ?_ _) | (with_reducible refine Kd.C_drewN ?_ _) | (with_reducible refine Kd.C_drew ?_) | exact HR256.out)) | (with_reducible refine Kd.C_alloc ?_ _) | (with_reducible refine Kd.C_drewN ?_ _) | (with_reducible refine Kd.C_drew ?_))); (case side2 => exact HC256.out); rintro e w61 ⟨rfl, hb⟩; refine ⟨_, rfl, ?_⟩; have n0_ := Aside0.mk (Kd.R_below (by (with_reducible repeat (first | apply Kd.R_alloc | apply Kd.R_drewN | apply Kd.R_drew)); exact HO_14.out) hb); have n1_ := Aside0.mk (Kd.C_below (by repeat (first | (with_reducible exact HR256.out) | (with_reducible refine Kd.C_alloc ?_ _) | (with_reducible refine Kd.C_drewN ?_ _) | (with_reducible refine Kd.C_drew ?_) | exact HR256.out)) hb); have n2_ := Aside0.mk (below_step (by repeat (first | (with_reducible first | exact HB.out | apply below_alloc | apply pw_below_drewN | apply below_drew1) | exact HB.out)) hb); clear HO_14; clear HR256; clear HB; have HO_14 := n0_; have HR256 := n1_; have HB := n2_; clear n0_ n1_ n2_; (try clear hb); (try clear hb2); (try clear hk); (try clear hi)))
                                    go_ret
                                    exact ⟨by first | rfl | (simp [errW_none, errW_some] <;> rfl) | (simp only [← hji48]; first | rfl | (simp [errW_none, errW_some] <;> rfl)) | (simp [*, errW_none, errW_some] <;> rfl), by repeat (first | (with_reducible first | exact HB.out | apply below_alloc | apply pw_below_drewN | apply below_drew1) | exact HB.out)⟩
                                  · rw [if_neg c59] at H
                                    have c59b0 : (t257.toList == t250.toList) = false := beq_eq_false_iff_ne.mpr c59
                                    have c59b1 : (t257.toList != t250.toList) = true := bne_iff_ne.mpr c59
                                    obtain rfl := Option.some.inj H
                                    have q62 : ((ji48) : Int) ≤ ((y249.length : Int) : Int) := of_decide_eq_true (by first | (with_reducible assumption) | assumption)
                                    obtain ⟨i062, hi062, _, hsz62, _⟩ := info_parts info9
                                    have hroom62 : y249.length ≤ co33 := (Kd.R_reads' HO_14.out).2.1
                                    have hC62 : Kd.C Kd.string _ (some ⟨go33, 0, none⟩) y249.length y249 := (Kd.R_reads' HO_14.out).2.2
                                    have hcut62 := cut_to (P := Try.prog) 24 9 .i64 Try.underlying24 hi062 (some ⟨go33, 0, none⟩) y249.length co33 (ji48) (of_decide_eq_true (by first | (with_reducible assumption) | assumption)) q62 hroom62
                                    have hr62 := Kd.C_take (m := ((ji48) : Int).toNat) hC62 (by omega)
                                    have hy62 : y253.length = ((ji48) : Int).toNat := (by rw [Ny253.out, List.length_take]; omega)
                                    rw [← Ny253.out] at hr62
                                    rw [← hy62] at hcut62
                                    have HR256 := Aside0.mk hr62
                                    have HC256 := Aside0.mk (show y253.length ≤ co33 from by omega)
                                    clear hr62 hC62 hroom62 hi062 hsz62
                                    have KY62 := Aside0.mk hy62
                                    clear hy62
                                    have KL62 := Aside0.mk (show ((ji48) : Int).toNat ≤ y249.length from by omega)
                                    replace q62 := eq_true q62
                                    go_wp2_with (first | ((with_reducible refine gate_callee (f := 11) rfl ?_); refine goesL_ (some 103) rfl rfl Try.func11 (by kernel_rfl) rfl #[.slice (some ⟨go33, 0, none⟩) y253.length co33] rfl (by (try simp only [List.map_toArray, List.map_cons, List.map_nil]); first | done | rfl | (simp only [List.length_drop, List.length_take]; rfl)) ?_; (with_reducible refine (tree_Root.calls kj34 _ _ y253 t257 t258 _ ?side1 ?side2 A51.out).mono ?_); (case side1 => repeat (first | exact (by repeat (first | (with_reducible exact HR256.out) | (with_reducible refine Kd.C_alloc ?_ _) | (with_reducible refine Kd.C_drewN ?_ _) | (with_reducible refine Kd.C_drew ?_) | exact HR256.out)) | (with_reducible refine Kd.C_alloc ?_ _) | (with_reducible refine Kd.C_drewN ?_ _) | (with_reducible refine Kd.C_drew ?_))); (case side2 => exact HC256.out); rintro e w63 ⟨rfl, hb⟩; refine ⟨_, rfl, ?_⟩; have n0_ := Aside0.mk (Kd.R_below (by (with_reducible repeat (first | apply Kd.R_alloc | apply Kd.R_drewN | apply Kd.R_drew)); exact HO_14.out) hb); have n1_ := Aside0.mk (Kd.C_below (by repeat (first | (with_reducible exact HR256.out) | (with_reducible refine Kd.C_alloc ?_ _) | (with_reducible refine Kd.C_drewN ?_ _) | (with_reducible refine Kd.C_drew ?_) | exact HR256.out)) hb); have n2_ := Aside0.mk (below_step (by repeat (first | (with_reducible first | exact HB.out | apply below_alloc | apply pw_below_drewN | apply below_drew1) | exact HB.out)) hb); clear HO_14; clear HR256; clear HB; have HO_14 := n0_; have HR256 := n1_; have HB := n2_; clear n0_ n1_ n2_; (try clear hb); (try clear hb2); (try clear hk); (try clear hi)))
                                    go_ret
                                    exact ⟨by first | rfl | (simp [errW_none, errW_some] <;> rfl) | (simp only [← hji48]; first | rfl | (simp [errW_none, errW_some] <;> rfl)) | (simp [*, errW_none, errW_some] <;> rfl), by repeat (first | (with_reducible first | exact HB.out | apply below_alloc | apply pw_below_drewN | apply below_drew1) | exact HB.out)⟩
                                · rw [if_neg c58] at H
                                  have c58b0 : (t258 == 0) = false := beq_eq_false_iff_ne.mpr c58
                                  have c58b1 : (t258 != 0) = true := bne_iff_ne.mpr c58
                                  obtain rfl := Option.some.inj H
                                  have q64 : ((ji48) : Int) ≤ ((y249.length : Int) : Int) := of_decide_eq_true (by first | (with_reducible assumption) | assumption)
                                  obtain ⟨i064, hi064, _, hsz64, _⟩ := info_parts info9
                                  have hroom64 : y249.length ≤ co33 := (Kd.R_reads' HO_14.out).2.1
                                  have hC64 : Kd.C Kd.string _ (some ⟨go33, 0, none⟩) y249.length y249 := (Kd.R_reads' HO_14.out).2.2
                                  have hcut64 := cut_to (P := Try.prog) 24 9 .i64 Try.underlying24 hi064 (some ⟨go33, 0, none⟩) y249.length co33 (ji48) (of_decide_eq_true (by first | (with_reducible assumption) | assumption)) q64 hroom64
                                  have hr64 := Kd.C_take (m := ((ji48) : Int).toNat) hC64 (by omega)
                                  have hy64 : y253.length = ((ji48) : Int).toNat := (by rw [Ny253.out, List.length_take]; omega)
                                  rw [← Ny253.out] at hr64
                                  rw [← hy64] at hcut64
                                  have HR256 := Aside0.mk hr64
                                  have HC256 := Aside0.mk (show y253.length ≤ co33 from by omega)
                                  clear hr64 hC64 hroom64 hi064 hsz64
                                  have KY64 := Aside0.mk hy64
                                  clear hy64
                                  have KL64 := Aside0.mk (show ((ji48) : Int).toNat ≤ y249.length from by omega)
                                  replace q64 := eq_true q64
                                  go_wp2_with (first | ((with_reducible refine gate_callee (f := 11) rfl ?_); refine goesL_ (some 103) rfl rfl Try.func11 (by kernel_rfl) rfl #[.slice (some ⟨go33, 0, none⟩) y253.length co33] rfl (by (try simp only [List.map_toArray, List.map_cons, List.map_nil]); first | done | rfl | (simp only [List.length_drop, List.length_take]; rfl)) ?_; (with_reducible refine (tree_Root.calls kj34 _ _ y253 t257 t258 _ ?side1 ?side2 A51.out).mono ?_); (case side1 => repeat (first | exact (by repeat (first | (with_reducible exact HR256.out) | (with_reducible refine Kd.C_alloc ?_ _) | (with_reducible refine Kd.C_drewN ?_ _) | (with_reducible refine Kd.C_drew ?_) | exact HR256.out)) | (with_reducible refine Kd.C_alloc ?_ _) | (with_reducible refine Kd.C_drewN ?_ _) | (with_reducible refine Kd.C_drew ?_))); (case side2 => exact HC256.out); rintro e w65 ⟨rfl, hb⟩; refine ⟨_, rfl, ?_⟩; have n0_ := Aside0.mk (Kd.R_below (by (with_reducible repeat (first | apply Kd.R_alloc | apply Kd.R_drewN | apply Kd.R_drew)); exact HO_14.out) hb); have n1_ := Aside0.mk (Kd.C_below (by repeat (first | (with_reducible exact HR256.out) | (with_reducible refine Kd.C_alloc ?_ _) | (with_reducible refine Kd.C_drewN ?_ _) | (with_reducible refine Kd.C_drew ?_) | exact HR256.out)) hb); have n2_ := Aside0.mk (below_step (by repeat (first | (with_reducible first | exact HB.out | apply below_alloc | apply pw_below_drewN | apply below_drew1) | exact HB.out)) hb); clear HO_14; clear HR256; clear HB; have HO_14 := n0_; have HR256 := n1_; have HB := n2_; clear n0_ n1_ n2_; (try clear hb); (try clear hb2); (try clear hk); (try clear hi)))
                                  go_ret
                                  exact ⟨by first | rfl | (simp [errW_none, errW_some] <;> rfl) | (simp only [← hji48]; first | rfl | (simp [errW_none, errW_some] <;> rfl)) | (simp [*, errW_none, errW_some] <;> rfl), by repeat (first | (with_reducible first | exact HB.out | apply below_alloc | apply pw_below_drewN | apply below_drew1) | exact HB.out)⟩
                            · rw [if_neg c50] at H
                              exact absurd H (by simp)
                          · rw [if_neg c49] at H
                            exact absurd H (by simp)
                  · rw [if_neg c32] at H
                    exact absurd H (by simp)
                · rw [if_neg c31] at H
                  exact absurd H (by simp)
              · rw [if_neg c28] at H
                exact absurd H (by simp)

/-- THE ONE PURE STATEMENT of letterlocklaw10_TreeOne: yours. -/
def letterlocklaw10_TreeOne.Pure : Prop := ∀ (l0 : List Int) (l1 : List Int) (a2 : Int), l0.length ≤ maxLen → l0.length * 8 ≤ 140737488351232 → (∀ x ∈ l0, (Lit.int .i64 x).wf = true) → l1.length ≤ maxLen → l1.length * 8 ≤ 140737488351232 → (∀ x ∈ l1, (Lit.int .i64 x).wf = true) → (Lit.int .i64 a2).wf = true → ∃ k, letterlocklaw10_TreeOne.f k l0 l1 a2 = some true
theorem letterlocklaw10_TreeOne.walk (P : letterlocklaw10_TreeOne.Pure) (a0 : Option Addr) (len0 cap0 : Nat) (z0 : List Int) (a1 : Option Addr) (len1 cap1 : Nat) (z1 : List Int) (a2 : Int) (w : World) (w0 : (a0 = none ∧ len0 = 0 ∧ cap0 = 0 ∧ z0 = []) ∨ ∃ x, a0 = some x ∧ len0 ≤ cap0 ∧ cap0 ≤ maxLen ∧ z0.length = cap0 ∧ (∀ i, i < z0.length → w.cell? (x.add i) = some (.int .i64 (z0.getD i 0))) ∧ ∀ n ∈ z0, (Lit.int .i64 n).wf = true) (y0 : len0 * 8 ≤ 140737488351232) (w1 : (a1 = none ∧ len1 = 0 ∧ cap1 = 0 ∧ z1 = []) ∨ ∃ x, a1 = some x ∧ len1 ≤ cap1 ∧ cap1 ≤ maxLen ∧ z1.length = cap1 ∧ (∀ i, i < z1.length → w.cell? (x.add i) = some (.int .i64 (z1.getD i 0))) ∧ ∀ n ∈ z1, (Lit.int .i64 n).wf = true) (y1 : len1 * 8 ≤ 140737488351232) (w2 : (Lit.int .i64 a2).wf = true) :
    Calls Try.prog 3 #[.slice a0 len0 cap0, .slice a1 len1 cap1, .int .i64 a2] w fun e w' => e = .returned (.bool true) ∧ Below w.heap.size w w' := by
  obtain ⟨l0, rfl, hr0, hm0, hw0, hc0⟩ := ReadsInt.ofRowC w0
  obtain ⟨l1, rfl, hr1, hm1, hw1, hc1⟩ := ReadsInt.ofRowC w1
  obtain ⟨k, h⟩ := P l0 l1 a2 hm0 y0 hw0 hm1 y1 hw1 w2
  refine (letterlocklaw10_TreeOne.calls k _ _ l0 _ _ l1 a2 true w (Kd.C_of_reads (d := (0 : Int)) (h1 := fun _ => rfl) hr0) hc0 (Kd.C_of_reads (d := (0 : Int)) (h1 := fun _ => rfl) hr1) hc1 h).mono ?_
  rintro e w' ⟨rfl, hd⟩
  exact ⟨rfl, hd⟩

end Go.Proofs.Ytbbcklpenafefaa.P
