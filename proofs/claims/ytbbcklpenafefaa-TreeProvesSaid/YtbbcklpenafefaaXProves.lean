/- TreeProves: the printed walk up to its last statement, and that one by hand. -/
import Derived.Test.YtbbcklpenafefaaG0
import Derived.Test.YtbbcklpenafefaaGLaw10
import Derived.Test.YtbbcklpenafefaaGLaw10R
import Derived.Test.YtbbcklpenafefaaGTree
import Derived.Test.YtbbcklpenafefaaXTree
import Derived.Test.YtbbcklpenafefaaGLTreeProves
import Derived.Test.YtbbcklpenafefaaXProvesH
namespace Go.Proofs.Ytbbcklpenafefaa.P
open Go.RowKit Go.Proofs.YtbbcklpenafefaaW.PrintWords Go.Proofs.YtbbcklpenafefaaW.PrintLast Go.Proofs.YtbbcklpenafefaaW.PrintMore
attribute [local go_sem] max2_int min2_int max_two min_two max_three min_three max_four min_four   -- for this text's walks alone
set_option linter.unusedVariables false
set_option linter.unusedSimpArgs false

set_option maxHeartbeats 8000000 in
set_option maxRecDepth 100000 in
theorem letterlocklaw10_TreeProves.calls (k : Nat) (A0 : Option Addr) (c0 : Nat) (l0 : List Int) (a1 : Int) (a2 : Int) (a3 : Int) (r : Bool) (w : World) (hr0 : Kd.C (Kd.int .i64) w A0 l0.length l0) (hc0 : l0.length ≤ c0) (h : letterlocklaw10_TreeProves.f k l0 a1 a2 a3 = some r) (hq : ProvesEnd l0 a1 a3) :
  Calls Try.prog 6 #[.slice A0 l0.length c0, .int .i64 a1, .int .i64 a2, .int .i64 a3] w fun e w' => e = .returned (.bool r) ∧ Below w.heap.size w w' := by
 have HQ := Aside0.mk hq
 clear hq
 have HR0 := Aside0.mk hr0
 have HC0 := Aside0.mk hc0
 clear hr0 hc0
 have HB := Aside0.mk (Below.refl w.heap.size w)
 have H : ((letterlocklaw10_shown.f k).bind fun t226 => ((letterlocklaw10_row.f k l0).bind fun t227 => (if t226 = true then (if (t227.length : Int) = 0 then (some t226) else ((letterlocklaw10_pick.f a1 (t227.length : Int)).bind fun t230 => ((tree_Root.f k t227).bind fun bt231 => ((tree_Proof.f k t227 t230).bind fun bt233 => (if bt231.2 = 0 then (if bt233.2 = 0 then (if 0 ≤ t230 then (if t230 < (t227.length : Int) then ((tree_Verify.f k bt231.1 (t227.length : Int) t230 (rdOf ByteArray.empty t227 t230) bt233.1).bind fun t238 => (if t238 = true then (if (bt233.1.length : Int) > 3 then (none) else (if (t227.length : Int) > 1 then (letterlocklaw10_TreeProves.j0 k a2 a3 t227 (t227.length : Int) t230 bt231.1 bt233.1 ((bt233.1.length : Int) == 0)) else (letterlocklaw10_TreeProves.j0 k a2 a3 t227 (t227.length : Int) t230 bt231.1 bt233.1 false))) else (none))) else (none)) else (none)) else (none)) else (none)))))) else (none)))) = some r := h
 clear h
 replace H := Option.bind_eq_some_iff.mp H
 obtain ⟨t226, A50, H⟩ := H
 replace H : ((letterlocklaw10_row.f k l0).bind fun t227 => (if t226 = true then (if (t227.length : Int) = 0 then (some t226) else ((letterlocklaw10_pick.f a1 (t227.length : Int)).bind fun t230 => ((tree_Root.f k t227).bind fun bt231 => ((tree_Proof.f k t227 t230).bind fun bt233 => (if bt231.2 = 0 then (if bt233.2 = 0 then (if 0 ≤ t230 then (if t230 < (t227.length : Int) then ((tree_Verify.f k bt231.1 (t227.length : Int) t230 (rdOf ByteArray.empty t227 t230) bt233.1).bind fun t238 => (if t238 = true then (if (bt233.1.length : Int) > 3 then (none) else (if (t227.length : Int) > 1 then (letterlocklaw10_TreeProves.j0 k a2 a3 t227 (t227.length : Int) t230 bt231.1 bt233.1 ((bt233.1.length : Int) == 0)) else (letterlocklaw10_TreeProves.j0 k a2 a3 t227 (t227.length : Int) t230 bt231.1 bt233.1 false))) else (none))) else (none)) else (none)) else (none)) else (none)))))) else (none))) = some r := H
 have A5 := Aside0.mk A50
 clear A50
 replace H := Option.bind_eq_some_iff.mp H
 obtain ⟨t227, A60, H⟩ := H
 replace H : (if t226 = true then (if (t227.length : Int) = 0 then (some t226) else ((letterlocklaw10_pick.f a1 (t227.length : Int)).bind fun t230 => ((tree_Root.f k t227).bind fun bt231 => ((tree_Proof.f k t227 t230).bind fun bt233 => (if bt231.2 = 0 then (if bt233.2 = 0 then (if 0 ≤ t230 then (if t230 < (t227.length : Int) then ((tree_Verify.f k bt231.1 (t227.length : Int) t230 (rdOf ByteArray.empty t227 t230) bt233.1).bind fun t238 => (if t238 = true then (if (bt233.1.length : Int) > 3 then (none) else (if (t227.length : Int) > 1 then (letterlocklaw10_TreeProves.j0 k a2 a3 t227 (t227.length : Int) t230 bt231.1 bt233.1 ((bt233.1.length : Int) == 0)) else (letterlocklaw10_TreeProves.j0 k a2 a3 t227 (t227.length : Int) t230 bt231.1 bt233.1 false))) else (none))) else (none)) else (none)) else (none)) else (none)))))) else (none)) = some r := H
 have A6 := Aside0.mk A60
 clear A60
 by_cases c7 : t226 = true
 rotate_left
 ·replace c7 := Bool.eq_false_iff.mpr c7
  subst c7
  have H1 : (none) = some r := by rw [if_neg (show ¬ (false = true) by decide)] at H; exact H
  clear H
  have H := H1
  clear H1
  exact absurd H (by simp)
 subst c7
 have H1 : (if (t227.length : Int) = 0 then (some true) else ((letterlocklaw10_pick.f a1 (t227.length : Int)).bind fun t230 => ((tree_Root.f k t227).bind fun bt231 => ((tree_Proof.f k t227 t230).bind fun bt233 => (if bt231.2 = 0 then (if bt233.2 = 0 then (if 0 ≤ t230 then (if t230 < (t227.length : Int) then ((tree_Verify.f k bt231.1 (t227.length : Int) t230 (rdOf ByteArray.empty t227 t230) bt233.1).bind fun t238 => (if t238 = true then (if (bt233.1.length : Int) > 3 then (none) else (if (t227.length : Int) > 1 then (letterlocklaw10_TreeProves.j0 k a2 a3 t227 (t227.length : Int) t230 bt231.1 bt233.1 ((bt233.1.length : Int) == 0)) else (letterlocklaw10_TreeProves.j0 k a2 a3 t227 (t227.length : Int) t230 bt231.1 bt233.1 false))) else (none))) else (none)) else (none)) else (none)) else (none)))))) = some r := by rw [if_pos rfl] at H; exact H
 clear H
 have H := H1
 clear H1
 by_cases c8 : (t227.length : Int) = 0
 ·rw [if_pos c8] at H
  have c8b0 : ((t227.length : Int) == 0) = true := beq_iff_eq.mpr c8
  have c8b1 : ((t227.length : Int) != 0) = false := bne_eq_false_iff_eq.mpr c8
  clear c8
  obtain rfl := Option.some.inj H
  go_enter Try.func6, Try.ntmps6
  go_wp2_with (first | ((with_reducible refine gate_callee (f := 9) rfl ?_); refine goesL_ (some 22) rfl rfl Try.func9 (by kernel_rfl) rfl #[] rfl (by (try simp only [List.map_toArray, List.map_cons, List.map_nil]); first | done | rfl | (simp only [List.length_drop, List.length_take]; rfl)) ?_; (with_reducible refine (letterlocklaw10_shown.calls k  true _ A5.out).mono ?_); rintro e w9 ⟨rfl, hb⟩; refine ⟨_, rfl, ?_⟩; have n0_ := Aside0.mk (below_step (by repeat (first | (with_reducible first | exact HB.out | apply below_alloc | apply pw_below_drewN | apply below_drew1) | exact HB.out)) hb); clear HB; have HB := n0_; clear n0_; (try clear hb); (try clear hb2); (try clear hk); (try clear hi)) | ((with_reducible refine gate_callee (f := 10) rfl ?_); refine goesL_ (some 24) rfl rfl Try.func10 (by kernel_rfl) rfl #[.slice A0 l0.length c0] rfl (by (try simp only [List.map_toArray, List.map_cons, List.map_nil]); first | done | rfl | (simp only [List.length_drop, List.length_take]; rfl)) ?_; (with_reducible refine (letterlocklaw10_row.calls k _ _ l0 t227 _ ?side1 ?side2 A6.out).mono ?_); (case side1 => repeat (first | exact (Kd.C_below HR0.out HB.out) | (with_reducible refine Kd.C_alloc ?_ _) | (with_reducible refine Kd.C_drewN ?_ _) | (with_reducible refine Kd.C_drew ?_))); (case side2 => exact HC0.out); rintro e w10 ⟨v228, rfl, ho0, hb⟩; refine ⟨_, rfl, ?_⟩; have n0_ := Aside0.mk (Kd.R_lower ho0 (below_size (by repeat (first | (with_reducible first | exact HB.out | apply below_alloc | apply pw_below_drewN | apply below_drew1) | exact HB.out)))); have n1_ := Aside0.mk (below_step (by repeat (first | (with_reducible first | exact HB.out | apply below_alloc | apply pw_below_drewN | apply below_drew1) | exact HB.out)) hb); clear HB; have HO229 := n0_; have HB := n1_; clear n0_ n1_; (try clear hb); (try clear hb2); (try clear hk); (try clear hi); (try clear ho0); obtain ⟨Ao11, co11, eo11⟩ := Kd.R_slice HO229.out; subst eo11))
  go_ret
  exact ⟨by first | rfl | (simp [errW_none, errW_some] <;> rfl) | (simp [*, errW_none, errW_some] <;> rfl), by repeat (first | (with_reducible first | exact HB.out | apply below_alloc | apply pw_below_drewN | apply below_drew1) | exact HB.out)⟩
 ·rw [if_neg c8] at H
  have c8b0 : ((t227.length : Int) == 0) = false := beq_eq_false_iff_ne.mpr c8
  have c8b1 : ((t227.length : Int) != 0) = true := bne_iff_ne.mpr c8
  have c8b2 : ¬ (t227 = []) := fun h_ => c8 (by rw [h_]; rfl)
  replace H := Option.bind_eq_some_iff.mp H
  obtain ⟨t230, A120, H⟩ := H
  replace H : ((tree_Root.f k t227).bind fun bt231 => ((tree_Proof.f k t227 t230).bind fun bt233 => (if bt231.2 = 0 then (if bt233.2 = 0 then (if 0 ≤ t230 then (if t230 < (t227.length : Int) then ((tree_Verify.f k bt231.1 (t227.length : Int) t230 (rdOf ByteArray.empty t227 t230) bt233.1).bind fun t238 => (if t238 = true then (if (bt233.1.length : Int) > 3 then (none) else (if (t227.length : Int) > 1 then (letterlocklaw10_TreeProves.j0 k a2 a3 t227 (t227.length : Int) t230 bt231.1 bt233.1 ((bt233.1.length : Int) == 0)) else (letterlocklaw10_TreeProves.j0 k a2 a3 t227 (t227.length : Int) t230 bt231.1 bt233.1 false))) else (none))) else (none)) else (none)) else (none)) else (none)))) = some r := H
  have A12 := Aside0.mk A120
  clear A120
  replace H := Option.bind_eq_some_iff.mp H
  obtain ⟨⟨t231, t232⟩, A130, H⟩ := H
  replace H : ((tree_Proof.f k t227 t230).bind fun bt233 => (if t232 = 0 then (if bt233.2 = 0 then (if 0 ≤ t230 then (if t230 < (t227.length : Int) then ((tree_Verify.f k t231 (t227.length : Int) t230 (rdOf ByteArray.empty t227 t230) bt233.1).bind fun t238 => (if t238 = true then (if (bt233.1.length : Int) > 3 then (none) else (if (t227.length : Int) > 1 then (letterlocklaw10_TreeProves.j0 k a2 a3 t227 (t227.length : Int) t230 t231 bt233.1 ((bt233.1.length : Int) == 0)) else (letterlocklaw10_TreeProves.j0 k a2 a3 t227 (t227.length : Int) t230 t231 bt233.1 false))) else (none))) else (none)) else (none)) else (none)) else (none))) = some r := H
  have A13 := Aside0.mk A130
  clear A130
  replace H := Option.bind_eq_some_iff.mp H
  obtain ⟨⟨t233, t234⟩, A140, H⟩ := H
  replace H : (if t232 = 0 then (if t234 = 0 then (if 0 ≤ t230 then (if t230 < (t227.length : Int) then ((tree_Verify.f k t231 (t227.length : Int) t230 (rdOf ByteArray.empty t227 t230) t233).bind fun t238 => (if t238 = true then (if (t233.length : Int) > 3 then (none) else (if (t227.length : Int) > 1 then (letterlocklaw10_TreeProves.j0 k a2 a3 t227 (t227.length : Int) t230 t231 t233 ((t233.length : Int) == 0)) else (letterlocklaw10_TreeProves.j0 k a2 a3 t227 (t227.length : Int) t230 t231 t233 false))) else (none))) else (none)) else (none)) else (none)) else (none)) = some r := H
  have A14 := Aside0.mk A140
  clear A140
  have HC15 := Aside0.mk H
  clear H
  go_enter Try.func6, Try.ntmps6
  go_upto_region 9 with (first | ((with_reducible refine gate_callee (f := 9) rfl ?_); refine goesL_ (some 22) rfl rfl Try.func9 (by kernel_rfl) rfl #[] rfl (by (try simp only [List.map_toArray, List.map_cons, List.map_nil]); first | done | rfl | (simp only [List.length_drop, List.length_take]; rfl)) ?_; (with_reducible refine (letterlocklaw10_shown.calls k  true _ A5.out).mono ?_); rintro e w16 ⟨rfl, hb⟩; refine ⟨_, rfl, ?_⟩; have n0_ := Aside0.mk (below_step (by repeat (first | (with_reducible first | exact HB.out | apply below_alloc | apply pw_below_drewN | apply below_drew1) | exact HB.out)) hb); clear HB; have HB := n0_; clear n0_; (try clear hb); (try clear hb2); (try clear hk); (try clear hi)) | ((with_reducible refine gate_callee (f := 10) rfl ?_); refine goesL_ (some 24) rfl rfl Try.func10 (by kernel_rfl) rfl #[.slice A0 l0.length c0] rfl (by (try simp only [List.map_toArray, List.map_cons, List.map_nil]); first | done | rfl | (simp only [List.length_drop, List.length_take]; rfl)) ?_; (with_reducible refine (letterlocklaw10_row.calls k _ _ l0 t227 _ ?side1 ?side2 A6.out).mono ?_); (case side1 => repeat (first | exact (Kd.C_below HR0.out HB.out) | (with_reducible refine Kd.C_alloc ?_ _) | (with_reducible refine Kd.C_drewN ?_ _) | (with_reducible refine Kd.C_drew ?_))); (case side2 => exact HC0.out); rintro e w17 ⟨v228, rfl, ho0, hb⟩; refine ⟨_, rfl, ?_⟩; have n0_ := Aside0.mk (Kd.R_lower ho0 (below_size (by repeat (first | (with_reducible first | exact HB.out | apply below_alloc | apply pw_below_drewN | apply below_drew1) | exact HB.out)))); have n1_ := Aside0.mk (below_step (by repeat (first | (with_reducible first | exact HB.out | apply below_alloc | apply pw_below_drewN | apply below_drew1) | exact HB.out)) hb); clear HB; have HO229 := n0_; have HB := n1_; clear n0_ n1_; (try clear hb); (try clear hb2); (try clear hk); (try clear hi); (try clear ho0); obtain ⟨Ao18, co18, eo18⟩ := Kd.R_slice HO229.out; subst eo18) | ((with_reducible refine gate_callee (f := 13) rfl ?_); refine goesL_ (some 37) rfl rfl Try.func13 (by kernel_rfl) rfl #[.int .i64 a1, .int .i64 (t227.length : Int)] rfl (by (try simp only [List.map_toArray, List.map_cons, List.map_nil]); first | done | rfl | (simp only [List.length_drop, List.length_take]; rfl)) ?_; (with_reducible refine (letterlocklaw10_pick.calls a1 (t227.length : Int) t230 _ A12.out).mono ?_); rintro e w' ⟨rfl, ⟨nd, rfl⟩⟩; refine ⟨_, rfl, ?_⟩) | ((with_reducible refine gate_callee (f := 11) rfl ?_); refine goesL_ (some 40) rfl rfl Try.func11 (by kernel_rfl) rfl #[.slice Ao18 t227.length co18] rfl (by (try simp only [List.map_toArray, List.map_cons, List.map_nil]); first | done | rfl | (simp only [List.length_drop, List.length_take]; rfl)) ?_; (with_reducible refine (tree_Root.calls k _ _ t227 t231 t232 _ ?side1 ?side2 A13.out).mono ?_); (case side1 => repeat (first | exact (Kd.R_reads' HO229.out).2.2 | (with_reducible refine Kd.C_alloc ?_ _) | (with_reducible refine Kd.C_drewN ?_ _) | (with_reducible refine Kd.C_drew ?_))); (case side2 => exact (Kd.R_reads' HO229.out).2.1); rintro e w19 ⟨rfl, hb⟩; refine ⟨_, rfl, ?_⟩; have n0_ := Aside0.mk (Kd.R_below (by (with_reducible repeat (first | apply Kd.R_alloc | apply Kd.R_drewN | apply Kd.R_drew)); exact HO229.out) hb); have n1_ := Aside0.mk (below_step (by repeat (first | (with_reducible first | exact HB.out | apply below_alloc | apply pw_below_drewN | apply below_drew1) | exact HB.out)) hb); clear HO229; clear HB; have HO229 := n0_; have HB := n1_; clear n0_ n1_; (try clear hb); (try clear hb2); (try clear hk); (try clear hi)) | ((with_reducible refine gate_callee (f := 21) rfl ?_); refine goesL_ (some 46) rfl rfl Try.func21 (by kernel_rfl) rfl #[.slice Ao18 t227.length co18, .int .i64 t230] rfl (by (try simp only [List.map_toArray, List.map_cons, List.map_nil]); first | done | rfl | (simp only [List.length_drop, List.length_take]; rfl)) ?_; (with_reducible refine (tree_Proof.calls k _ _ t227 t230 t233 t234 _ ?side1 ?side2 A14.out).mono ?_); (case side1 => repeat (first | exact (Kd.R_reads' HO229.out).2.2 | (with_reducible refine Kd.C_alloc ?_ _) | (with_reducible refine Kd.C_drewN ?_ _) | (with_reducible refine Kd.C_drew ?_))); (case side2 => exact (Kd.R_reads' HO229.out).2.1); rintro e w20 ⟨v235, rfl, ho0, hb⟩; refine ⟨_, rfl, ?_⟩; have n0_ := Aside0.mk (Kd.R_elder' (by (with_reducible repeat (first | apply Kd.R_alloc | apply Kd.R_drewN | apply Kd.R_drew)); exact HO229.out) (Kd.R_base ho0) hb); have n1_ := Aside0.mk (Kd.R_lower (Kd.R_new' ho0 (Kd.R_lt (by (with_reducible repeat (first | apply Kd.R_alloc | apply Kd.R_drewN | apply Kd.R_drew)); exact HO229.out))) (below_size (by repeat (first | (with_reducible first | exact HB.out | apply below_alloc | apply pw_below_drewN | apply below_drew1) | exact HB.out)))); have n2_ := Aside0.mk (below_step (by repeat (first | (with_reducible first | exact HB.out | apply below_alloc | apply pw_below_drewN | apply below_drew1) | exact HB.out)) hb); clear HO229; clear HB; have HO229 := n0_; have HO236 := n1_; have HB := n2_; clear n0_ n1_ n2_; (try clear hb); (try clear hb2); (try clear hk); (try clear hi); (try clear ho0)))
  (try simp only [Act.put, List.setIfInBounds_toArray, List.set_cons_zero, List.set_cons_succ])
  go_cut [80] (fun v80 wc => ∃ (kq : Nat) (x80_14 : Bool), v80 = .bool x80_14 ∧ Aside0 (letterlocklaw10_TreeProves.j0 kq a2 a3 t227 (t227.length : Int) t230 t231 t233 x80_14 = some r) ∧ Aside0 (kq ≤ k) ∧ Aside0 (Kd.R Kd.string 9 wc w.heap.size (fun k_ => some k_ ≠ (v235 : Value).ownBlock) (.slice Ao18 t227.length co18) t227) ∧ Aside0 (Kd.R Kd.string 9 wc w.heap.size (fun k_ => some k_ ≠ ((.slice Ao18 t227.length co18) : Value).ownBlock) v235 t233) ∧ Aside0 (Below w.heap.size w wc))
  case first => as_aux_lemma =>
   have H := HC15.out
   clear HC15
   by_cases c21 : t232 = 0
   rotate_left
   ·rw [if_neg c21] at H
    exact absurd H (by simp)
   rw [if_pos c21] at H
   have c21b0 : (t232 == 0) = true := beq_iff_eq.mpr c21
   have c21b1 : (t232 != 0) = false := bne_eq_false_iff_eq.mpr c21
   clear c21
   (first | rw [c21b0] | (simp only [i64_w, i32_w]; rw [c21b0]) | skip)
   by_cases c22 : t234 = 0
   rotate_left
   ·rw [if_neg c22] at H
    exact absurd H (by simp)
   rw [if_pos c22] at H
   have c22b0 : (t234 == 0) = true := beq_iff_eq.mpr c22
   have c22b1 : (t234 != 0) = false := bne_eq_false_iff_eq.mpr c22
   clear c22
   by_cases c23 : 0 ≤ t230
   rotate_left
   ·rw [if_neg c23] at H
    exact absurd H (by simp)
   rw [if_pos c23] at H
   have c23b0 : decide (0 ≤ t230) = true := decide_eq_true c23
   clear c23
   by_cases c24 : t230 < (t227.length : Int)
   rotate_left
   ·rw [if_neg c24] at H
    exact absurd H (by simp)
   rw [if_pos c24] at H
   have c24b0 : decide (t230 < (t227.length : Int)) = true := decide_eq_true c24
   clear c24
   replace H := Option.bind_eq_some_iff.mp H
   obtain ⟨t238, A250, H⟩ := H
   replace H : (if t238 = true then (if (t233.length : Int) > 3 then (none) else (if (t227.length : Int) > 1 then (letterlocklaw10_TreeProves.j0 k a2 a3 t227 (t227.length : Int) t230 t231 t233 ((t233.length : Int) == 0)) else (letterlocklaw10_TreeProves.j0 k a2 a3 t227 (t227.length : Int) t230 t231 t233 false))) else (none)) = some r := H
   have A25 := Aside0.mk A250
   clear A250
   by_cases c26 : t238 = true
   rotate_left
   ·replace c26 := Bool.eq_false_iff.mpr c26
    subst c26
    have H1 : (none) = some r := by rw [if_neg (show ¬ (false = true) by decide)] at H; exact H
    clear H
    have H := H1
    clear H1
    exact absurd H (by simp)
   subst c26
   have H1 : (if (t233.length : Int) > 3 then (none) else (if (t227.length : Int) > 1 then (letterlocklaw10_TreeProves.j0 k a2 a3 t227 (t227.length : Int) t230 t231 t233 ((t233.length : Int) == 0)) else (letterlocklaw10_TreeProves.j0 k a2 a3 t227 (t227.length : Int) t230 t231 t233 false))) = some r := by rw [if_pos rfl] at H; exact H
   clear H
   have H := H1
   clear H1
   by_cases c27 : (t233.length : Int) > 3
   ·rw [if_pos c27] at H
    exact absurd H (by simp)
   ·rw [if_neg c27] at H
    have c27b0 : decide (3 < (t233.length : Int)) = false := decide_eq_false c27
    have c27b1 : decide (3 < t233.length) = false := decide_eq_false (by omega)
    clear c27
    by_cases c28 : (t227.length : Int) > 1
    ·rw [if_pos c28] at H
     have c28b0 : decide (1 < (t227.length : Int)) = true := decide_eq_true c28
     have c28b1 : decide (1 < t227.length) = true := decide_eq_true (by omega)
     clear c28
     have H' := Aside0.mk H
     clear H
     have p237 : 0 ≤ (t230 : Int) := of_decide_eq_true (by first | (with_reducible assumption) | assumption)
     have q237 : t230 < (t227.length : Int) := of_decide_eq_true (by first | (with_reducible assumption) | assumption)
     obtain ⟨ad237, e237, hx237_0⟩ := Kd.at_string (Kd.R_reads' HO229.out).2.2 t230 p237 q237
     cases e237
     replace p237 := eq_true p237
     replace q237 := eq_true q237
     obtain ⟨Ao29, co29, eo29⟩ := Kd.R_slice HO236.out
     subst eo29
     go_wp2_with (first | (go_at_call 23; (with_reducible refine (tree_Verify.calls k t231 (t227.length : Int) t230 (rdOf ByteArray.empty t227 t230) _ _ t233 true _ ?side1 ?side2 A25.out).mono ?_); (case side1 => repeat (first | exact (Kd.R_reads' HO236.out).2.2 | (with_reducible refine Kd.C_alloc ?_ _) | (with_reducible refine Kd.C_drewN ?_ _) | (with_reducible refine Kd.C_drew ?_))); (case side2 => exact (Kd.R_reads' HO236.out).2.1); rintro e w30 ⟨rfl, hb⟩; have n0_ := Aside0.mk (Kd.R_below (by (with_reducible repeat (first | apply Kd.R_alloc | apply Kd.R_drewN | apply Kd.R_drew)); exact HO229.out) hb); have n1_ := Aside0.mk (Kd.R_below (by (with_reducible repeat (first | apply Kd.R_alloc | apply Kd.R_drewN | apply Kd.R_drew)); exact HO236.out) hb); have n2_ := Aside0.mk (below_step (by repeat (first | (with_reducible first | exact HB.out | apply below_alloc | apply pw_below_drewN | apply below_drew1) | exact HB.out)) hb); clear HO229; clear HO236; clear HB; have HO229 := n0_; have HO236 := n1_; have HB := n2_; clear n0_ n1_ n2_; (try clear hb); (try clear hb2); (try clear hk); (try clear hi)))
     go_meet
     case rel => exact ⟨_, (((t233.length : Int) == 0)), (by first | rfl | (simp; done) | (simp [*]; done) | (simp; exact isEmpty_ne _)), H', ⟨by first | omega | exact Nat.le_refl _⟩, ⟨by (with_reducible repeat (first | apply Kd.R_alloc | apply Kd.R_drewN | apply Kd.R_drew)); exact Kd.R_mono HO229.out (fun _ hk => hk.2)⟩, ⟨by (with_reducible repeat (first | apply Kd.R_alloc | apply Kd.R_drewN | apply Kd.R_drew)); exact Kd.R_mono HO236.out (fun _ hk => hk.2)⟩, ⟨by repeat (first | (with_reducible first | exact HB.out | apply below_alloc | apply pw_below_drewN | apply below_drew1) | exact HB.out)⟩⟩
    ·rw [if_neg c28] at H
     have c28b0 : decide (1 < (t227.length : Int)) = false := decide_eq_false c28
     have c28b1 : decide (1 < t227.length) = false := decide_eq_false (by omega)
     clear c28
     have H' := Aside0.mk H
     clear H
     have p237 : 0 ≤ (t230 : Int) := of_decide_eq_true (by first | (with_reducible assumption) | assumption)
     have q237 : t230 < (t227.length : Int) := of_decide_eq_true (by first | (with_reducible assumption) | assumption)
     obtain ⟨ad237, e237, hx237_0⟩ := Kd.at_string (Kd.R_reads' HO229.out).2.2 t230 p237 q237
     cases e237
     replace p237 := eq_true p237
     replace q237 := eq_true q237
     obtain ⟨Ao31, co31, eo31⟩ := Kd.R_slice HO236.out
     subst eo31
     go_wp2_with (first | (go_at_call 23; (with_reducible refine (tree_Verify.calls k t231 (t227.length : Int) t230 (rdOf ByteArray.empty t227 t230) _ _ t233 true _ ?side1 ?side2 A25.out).mono ?_); (case side1 => repeat (first | exact (Kd.R_reads' HO236.out).2.2 | (with_reducible refine Kd.C_alloc ?_ _) | (with_reducible refine Kd.C_drewN ?_ _) | (with_reducible refine Kd.C_drew ?_))); (case side2 => exact (Kd.R_reads' HO236.out).2.1); rintro e w32 ⟨rfl, hb⟩; have n0_ := Aside0.mk (Kd.R_below (by (with_reducible repeat (first | apply Kd.R_alloc | apply Kd.R_drewN | apply Kd.R_drew)); exact HO229.out) hb); have n1_ := Aside0.mk (Kd.R_below (by (with_reducible repeat (first | apply Kd.R_alloc | apply Kd.R_drewN | apply Kd.R_drew)); exact HO236.out) hb); have n2_ := Aside0.mk (below_step (by repeat (first | (with_reducible first | exact HB.out | apply below_alloc | apply pw_below_drewN | apply below_drew1) | exact HB.out)) hb); clear HO229; clear HO236; clear HB; have HO229 := n0_; have HO236 := n1_; have HB := n2_; clear n0_ n1_ n2_; (try clear hb); (try clear hb2); (try clear hk); (try clear hi)))
     go_meet
     case rel => exact ⟨_, (false), (by first | rfl | (simp; done) | (simp [*]; done) | (simp; exact isEmpty_ne _)), H', ⟨by first | omega | exact Nat.le_refl _⟩, ⟨by (with_reducible repeat (first | apply Kd.R_alloc | apply Kd.R_drewN | apply Kd.R_drew)); exact Kd.R_mono HO229.out (fun _ hk => hk.2)⟩, ⟨by (with_reducible repeat (first | apply Kd.R_alloc | apply Kd.R_drewN | apply Kd.R_drew)); exact Kd.R_mono HO236.out (fun _ hk => hk.2)⟩, ⟨by repeat (first | (with_reducible first | exact HB.out | apply below_alloc | apply pw_below_drewN | apply below_drew1) | exact HB.out)⟩⟩
  case rest => as_aux_lemma =>
   clear HC15
   try clear c1
   try clear c2
   try clear p2
   try clear q2
   try clear hx2
   try clear c6
   try clear c7
   try clear c8
   try clear c8b0
   try clear c8b1
   try clear c8b2
   try clear c9
   try clear c10
   try clear c11
   try clear c13
   try clear c21
   try clear c21b0
   try clear c21b1
   try clear c22
   try clear c22b0
   try clear c22b1
   try clear c23
   try clear c23b0
   try clear p23
   try clear q23
   try clear hx23
   try clear c24
   try clear c24b0
   try clear c26
   try clear c27
   try clear c27b0
   try clear c27b1
   try clear c28
   try clear c28b0
   try clear c28b1
   try clear hx237_0
   try clear p237
   try clear q237
   obtain ⟨kq, x80_14, rfl, HA, HJ14, HO_10, HO_15, HB⟩ := hcut
   cases kq with
   | zero => exact absurd HA.out (by simp [letterlocklaw10_TreeProves.j0])
   | succ kj14 =>
    have H := HA.out
    clear HA
    simp only [letterlocklaw10_TreeProves.j0] at H
    by_cases c33 : x80_14 = true
    ·subst c33
     have H1 : (none) = some r := by rw [if_pos rfl] at H; exact H
     clear H
     have H := H1
     clear H1
     exact absurd H (by simp)
    ·replace c33 := Bool.eq_false_iff.mpr c33
     subst c33
     have H1 : ((letterlocklaw10_pick.f a2 9).bind fun t239 => ((tree_Leaf.f kj14 (⟨#[111, 116, 104, 101, 114]⟩ : ByteArray) (IntKind.u64.wrap (t239))).bind fun bt240 => ((letterlocklaw10_pick.f a2 (t227.length : Int)).bind fun t242 => ((tree_Verify.f kj14 t231 (t227.length : Int) t230 bt240.1 t233).bind fun t243 => (if t243 = true then (none) else (if 0 ≤ t242 then (if t242 < (t227.length : Int) then (if 0 ≤ t230 then (if t230 < (t227.length : Int) then (if (rdOf ByteArray.empty t227 t242).toList = (rdOf ByteArray.empty t227 t230).toList then ((tree_Verify.f kj14 t231 (t227.length : Int) (t227.length : Int) (rdOf ByteArray.empty t227 t230) t233).bind fun t247 => (if t247 = true then (none) else ((tree_Verify.f kj14 t231 (t227.length : Int) (-1) (rdOf ByteArray.empty t227 t230) t233).bind fun t249 => (if t249 = true then (none) else (if 1 + t231.size ≤ 9223372036854775807 then ((tree_Verify.f kj14 ((⟨#[104]⟩ : ByteArray) ++ t231) (t227.length : Int) t230 (rdOf ByteArray.empty t227 t230) t233).bind fun t251 => (if t251 = true then (none) else (if 1 + (rdOf ByteArray.empty t227 t230).size ≤ 9223372036854775807 then ((tree_Verify.f kj14 t231 (t227.length : Int) t230 ((⟨#[104]⟩ : ByteArray) ++ (rdOf ByteArray.empty t227 t230)) t233).bind fun t253 => (letterlocklaw10_TreeProves.j1 kj14 a3 t227 (t227.length : Int) t231 t233 t253)) else (none)))) else (none)))))) else ((tree_Verify.f kj14 t231 (t227.length : Int) t230 (rdOf ByteArray.empty t227 t242) t233).bind fun t255 => (if t255 = true then (none) else ((tree_Verify.f kj14 t231 (t227.length : Int) (t227.length : Int) (rdOf ByteArray.empty t227 t230) t233).bind fun t257 => (if t257 = true then (none) else ((tree_Verify.f kj14 t231 (t227.length : Int) (-1) (rdOf ByteArray.empty t227 t230) t233).bind fun t259 => (if t259 = true then (none) else (if 1 + t231.size ≤ 9223372036854775807 then ((tree_Verify.f kj14 ((⟨#[104]⟩ : ByteArray) ++ t231) (t227.length : Int) t230 (rdOf ByteArray.empty t227 t230) t233).bind fun t261 => (if t261 = true then (none) else (if 1 + (rdOf ByteArray.empty t227 t230).size ≤ 9223372036854775807 then ((tree_Verify.f kj14 t231 (t227.length : Int) t230 ((⟨#[104]⟩ : ByteArray) ++ (rdOf ByteArray.empty t227 t230)) t233).bind fun t263 => (letterlocklaw10_TreeProves.j1 kj14 a3 t227 (t227.length : Int) t231 t233 t263)) else (none)))) else (none))))))))) else (none)) else (none)) else (none)) else (none))))))) = some r := by rw [if_neg (show ¬ (false = true) by decide)] at H; exact H
     clear H
     have H := H1
     clear H1
     replace H := Option.bind_eq_some_iff.mp H
     obtain ⟨t239, A340, H⟩ := H
     replace H : ((tree_Leaf.f kj14 (⟨#[111, 116, 104, 101, 114]⟩ : ByteArray) (IntKind.u64.wrap (t239))).bind fun bt240 => ((letterlocklaw10_pick.f a2 (t227.length : Int)).bind fun t242 => ((tree_Verify.f kj14 t231 (t227.length : Int) t230 bt240.1 t233).bind fun t243 => (if t243 = true then (none) else (if 0 ≤ t242 then (if t242 < (t227.length : Int) then (if 0 ≤ t230 then (if t230 < (t227.length : Int) then (if (rdOf ByteArray.empty t227 t242).toList = (rdOf ByteArray.empty t227 t230).toList then ((tree_Verify.f kj14 t231 (t227.length : Int) (t227.length : Int) (rdOf ByteArray.empty t227 t230) t233).bind fun t247 => (if t247 = true then (none) else ((tree_Verify.f kj14 t231 (t227.length : Int) (-1) (rdOf ByteArray.empty t227 t230) t233).bind fun t249 => (if t249 = true then (none) else (if 1 + t231.size ≤ 9223372036854775807 then ((tree_Verify.f kj14 ((⟨#[104]⟩ : ByteArray) ++ t231) (t227.length : Int) t230 (rdOf ByteArray.empty t227 t230) t233).bind fun t251 => (if t251 = true then (none) else (if 1 + (rdOf ByteArray.empty t227 t230).size ≤ 9223372036854775807 then ((tree_Verify.f kj14 t231 (t227.length : Int) t230 ((⟨#[104]⟩ : ByteArray) ++ (rdOf ByteArray.empty t227 t230)) t233).bind fun t253 => (letterlocklaw10_TreeProves.j1 kj14 a3 t227 (t227.length : Int) t231 t233 t253)) else (none)))) else (none)))))) else ((tree_Verify.f kj14 t231 (t227.length : Int) t230 (rdOf ByteArray.empty t227 t242) t233).bind fun t255 => (if t255 = true then (none) else ((tree_Verify.f kj14 t231 (t227.length : Int) (t227.length : Int) (rdOf ByteArray.empty t227 t230) t233).bind fun t257 => (if t257 = true then (none) else ((tree_Verify.f kj14 t231 (t227.length : Int) (-1) (rdOf ByteArray.empty t227 t230) t233).bind fun t259 => (if t259 = true then (none) else (if 1 + t231.size ≤ 9223372036854775807 then ((tree_Verify.f kj14 ((⟨#[104]⟩ : ByteArray) ++ t231) (t227.length : Int) t230 (rdOf ByteArray.empty t227 t230) t233).bind fun t261 => (if t261 = true then (none) else (if 1 + (rdOf ByteArray.empty t227 t230).size ≤ 9223372036854775807 then ((tree_Verify.f kj14 t231 (t227.length : Int) t230 ((⟨#[104]⟩ : ByteArray) ++ (rdOf ByteArray.empty t227 t230)) t233).bind fun t263 => (letterlocklaw10_TreeProves.j1 kj14 a3 t227 (t227.length : Int) t231 t233 t263)) else (none)))) else (none))))))))) else (none)) else (none)) else (none)) else (none)))))) = some r := H
     have A34 := Aside0.mk A340
     clear A340
     replace H := Option.bind_eq_some_iff.mp H
     obtain ⟨⟨t240, t241⟩, A350, H⟩ := H
     replace H : ((letterlocklaw10_pick.f a2 (t227.length : Int)).bind fun t242 => ((tree_Verify.f kj14 t231 (t227.length : Int) t230 t240 t233).bind fun t243 => (if t243 = true then (none) else (if 0 ≤ t242 then (if t242 < (t227.length : Int) then (if 0 ≤ t230 then (if t230 < (t227.length : Int) then (if (rdOf ByteArray.empty t227 t242).toList = (rdOf ByteArray.empty t227 t230).toList then ((tree_Verify.f kj14 t231 (t227.length : Int) (t227.length : Int) (rdOf ByteArray.empty t227 t230) t233).bind fun t247 => (if t247 = true then (none) else ((tree_Verify.f kj14 t231 (t227.length : Int) (-1) (rdOf ByteArray.empty t227 t230) t233).bind fun t249 => (if t249 = true then (none) else (if 1 + t231.size ≤ 9223372036854775807 then ((tree_Verify.f kj14 ((⟨#[104]⟩ : ByteArray) ++ t231) (t227.length : Int) t230 (rdOf ByteArray.empty t227 t230) t233).bind fun t251 => (if t251 = true then (none) else (if 1 + (rdOf ByteArray.empty t227 t230).size ≤ 9223372036854775807 then ((tree_Verify.f kj14 t231 (t227.length : Int) t230 ((⟨#[104]⟩ : ByteArray) ++ (rdOf ByteArray.empty t227 t230)) t233).bind fun t253 => (letterlocklaw10_TreeProves.j1 kj14 a3 t227 (t227.length : Int) t231 t233 t253)) else (none)))) else (none)))))) else ((tree_Verify.f kj14 t231 (t227.length : Int) t230 (rdOf ByteArray.empty t227 t242) t233).bind fun t255 => (if t255 = true then (none) else ((tree_Verify.f kj14 t231 (t227.length : Int) (t227.length : Int) (rdOf ByteArray.empty t227 t230) t233).bind fun t257 => (if t257 = true then (none) else ((tree_Verify.f kj14 t231 (t227.length : Int) (-1) (rdOf ByteArray.empty t227 t230) t233).bind fun t259 => (if t259 = true then (none) else (if 1 + t231.size ≤ 9223372036854775807 then ((tree_Verify.f kj14 ((⟨#[104]⟩ : ByteArray) ++ t231) (t227.length : Int) t230 (rdOf ByteArray.empty t227 t230) t233).bind fun t261 => (if t261 = true then (none) else (if 1 + (rdOf ByteArray.empty t227 t230).size ≤ 9223372036854775807 then ((tree_Verify.f kj14 t231 (t227.length : Int) t230 ((⟨#[104]⟩ : ByteArray) ++ (rdOf ByteArray.empty t227 t230)) t233).bind fun t263 => (letterlocklaw10_TreeProves.j1 kj14 a3 t227 (t227.length : Int) t231 t233 t263)) else (none)))) else (none))))))))) else (none)) else (none)) else (none)) else (none))))) = some r := H
     have A35 := Aside0.mk A350
     clear A350
     replace H := Option.bind_eq_some_iff.mp H
     obtain ⟨t242, A360, H⟩ := H
     replace H : ((tree_Verify.f kj14 t231 (t227.length : Int) t230 t240 t233).bind fun t243 => (if t243 = true then (none) else (if 0 ≤ t242 then (if t242 < (t227.length : Int) then (if 0 ≤ t230 then (if t230 < (t227.length : Int) then (if (rdOf ByteArray.empty t227 t242).toList = (rdOf ByteArray.empty t227 t230).toList then ((tree_Verify.f kj14 t231 (t227.length : Int) (t227.length : Int) (rdOf ByteArray.empty t227 t230) t233).bind fun t247 => (if t247 = true then (none) else ((tree_Verify.f kj14 t231 (t227.length : Int) (-1) (rdOf ByteArray.empty t227 t230) t233).bind fun t249 => (if t249 = true then (none) else (if 1 + t231.size ≤ 9223372036854775807 then ((tree_Verify.f kj14 ((⟨#[104]⟩ : ByteArray) ++ t231) (t227.length : Int) t230 (rdOf ByteArray.empty t227 t230) t233).bind fun t251 => (if t251 = true then (none) else (if 1 + (rdOf ByteArray.empty t227 t230).size ≤ 9223372036854775807 then ((tree_Verify.f kj14 t231 (t227.length : Int) t230 ((⟨#[104]⟩ : ByteArray) ++ (rdOf ByteArray.empty t227 t230)) t233).bind fun t253 => (letterlocklaw10_TreeProves.j1 kj14 a3 t227 (t227.length : Int) t231 t233 t253)) else (none)))) else (none)))))) else ((tree_Verify.f kj14 t231 (t227.length : Int) t230 (rdOf ByteArray.empty t227 t242) t233).bind fun t255 => (if t255 = true then (none) else ((tree_Verify.f kj14 t231 (t227.length : Int) (t227.length : Int) (rdOf ByteArray.empty t227 t230) t233).bind fun t257 => (if t257 = true then (none) else ((tree_Verify.f kj14 t231 (t227.length : Int) (-1) (rdOf ByteArray.empty t227 t230) t233).bind fun t259 => (if t259 = true then (none) else (if 1 + t231.size ≤ 9223372036854775807 then ((tree_Verify.f kj14 ((⟨#[104]⟩ : ByteArray) ++ t231) (t227.length : Int) t230 (rdOf ByteArray.empty t227 t230) t233).bind fun t261 => (if t261 = true then (none) else (if 1 + (rdOf ByteArray.empty t227 t230).size ≤ 9223372036854775807 then ((tree_Verify.f kj14 t231 (t227.length : Int) t230 ((⟨#[104]⟩ : ByteArray) ++ (rdOf ByteArray.empty t227 t230)) t233).bind fun t263 => (letterlocklaw10_TreeProves.j1 kj14 a3 t227 (t227.length : Int) t231 t233 t263)) else (none)))) else (none))))))))) else (none)) else (none)) else (none)) else (none)))) = some r := H
     have A36 := Aside0.mk A360
     clear A360
     have HC37 := Aside0.mk H
     clear H
     go_upto_region 13 with (first | ((with_reducible refine gate_callee (f := 13) rfl ?_); refine goesL_ (some 83) rfl rfl Try.func13 (by kernel_rfl) rfl #[.int .i64 a2, .int .i64 9] rfl (by (try simp only [List.map_toArray, List.map_cons, List.map_nil]); first | done | rfl | (simp only [List.length_drop, List.length_take]; rfl)) ?_; (with_reducible refine (letterlocklaw10_pick.calls a2 9 t239 _ A34.out).mono ?_); rintro e w' ⟨rfl, ⟨nd, rfl⟩⟩; refine ⟨_, rfl, ?_⟩) | ((with_reducible refine gate_callee (f := 14) rfl ?_); refine goesL_ (some 85) rfl rfl Try.func14 (by kernel_rfl) rfl #[.string (⟨#[111, 116, 104, 101, 114]⟩ : ByteArray), .int .u64 (IntKind.u64.wrap (t239))] rfl (by (try simp only [List.map_toArray, List.map_cons, List.map_nil]); first | done | rfl | (simp only [List.length_drop, List.length_take]; rfl)) ?_; (with_reducible refine (tree_Leaf.calls kj14 (⟨#[111, 116, 104, 101, 114]⟩ : ByteArray) (IntKind.u64.wrap (t239)) t240 t241 _ A35.out).mono ?_); rintro e w38 ⟨rfl, hb⟩; refine ⟨_, rfl, ?_⟩; have n0_ := Aside0.mk (Kd.R_below (by (with_reducible repeat (first | apply Kd.R_alloc | apply Kd.R_drewN | apply Kd.R_drew)); exact HO_10.out) hb); have n1_ := Aside0.mk (Kd.R_below (by (with_reducible repeat (first | apply Kd.R_alloc | apply Kd.R_drewN | apply Kd.R_drew)); exact HO_15.out) hb); have n2_ := Aside0.mk (below_step (by repeat (first | (with_reducible first | exact HB.out | apply below_alloc | apply pw_below_drewN | apply below_drew1) | exact HB.out)) hb); clear HO_10; clear HO_15; clear HB; have HO_10 := n0_; have HO_15 := n1_; have HB := n2_; clear n0_ n1_ n2_; (try clear hb); (try clear hb2); (try clear hk); (try clear hi)) | ((with_reducible refine gate_callee (f := 13) rfl ?_); refine goesL_ (some 90) rfl rfl Try.func13 (by kernel_rfl) rfl #[.int .i64 a2, .int .i64 (t227.length : Int)] rfl (by (try simp only [List.map_toArray, List.map_cons, List.map_nil]); first | done | rfl | (simp only [List.length_drop, List.length_take]; rfl)) ?_; (with_reducible refine (letterlocklaw10_pick.calls a2 (t227.length : Int) t242 _ A36.out).mono ?_); rintro e w' ⟨rfl, ⟨nd, rfl⟩⟩; refine ⟨_, rfl, ?_⟩))
     (try simp only [Act.put, List.setIfInBounds_toArray, List.set_cons_zero, List.set_cons_succ])
     go_cut [163] (fun v163 wc => ∃ (kq : Nat) (x163_36 : Bool), v163 = .bool x163_36 ∧ Aside0 (letterlocklaw10_TreeProves.j1 kq a3 t227 (t227.length : Int) t231 t233 x163_36 = some r) ∧ Aside0 (kq ≤ kj14) ∧ Aside0 (Kd.R Kd.string 9 wc w.heap.size (fun k_ => some k_ ≠ (v235 : Value).ownBlock) (.slice Ao18 t227.length co18) t227) ∧ Aside0 (Kd.R Kd.string 9 wc w.heap.size (fun k_ => some k_ ≠ ((.slice Ao18 t227.length co18) : Value).ownBlock) v235 t233) ∧ Aside0 (Below w.heap.size w wc))
     case first => as_aux_lemma =>
      have H := HC37.out
      clear HC37
      replace H := Option.bind_eq_some_iff.mp H
      obtain ⟨t243, A390, H⟩ := H
      replace H : (if t243 = true then (none) else (if 0 ≤ t242 then (if t242 < (t227.length : Int) then (if 0 ≤ t230 then (if t230 < (t227.length : Int) then (if (rdOf ByteArray.empty t227 t242).toList = (rdOf ByteArray.empty t227 t230).toList then ((tree_Verify.f kj14 t231 (t227.length : Int) (t227.length : Int) (rdOf ByteArray.empty t227 t230) t233).bind fun t247 => (if t247 = true then (none) else ((tree_Verify.f kj14 t231 (t227.length : Int) (-1) (rdOf ByteArray.empty t227 t230) t233).bind fun t249 => (if t249 = true then (none) else (if 1 + t231.size ≤ 9223372036854775807 then ((tree_Verify.f kj14 ((⟨#[104]⟩ : ByteArray) ++ t231) (t227.length : Int) t230 (rdOf ByteArray.empty t227 t230) t233).bind fun t251 => (if t251 = true then (none) else (if 1 + (rdOf ByteArray.empty t227 t230).size ≤ 9223372036854775807 then ((tree_Verify.f kj14 t231 (t227.length : Int) t230 ((⟨#[104]⟩ : ByteArray) ++ (rdOf ByteArray.empty t227 t230)) t233).bind fun t253 => (letterlocklaw10_TreeProves.j1 kj14 a3 t227 (t227.length : Int) t231 t233 t253)) else (none)))) else (none)))))) else ((tree_Verify.f kj14 t231 (t227.length : Int) t230 (rdOf ByteArray.empty t227 t242) t233).bind fun t255 => (if t255 = true then (none) else ((tree_Verify.f kj14 t231 (t227.length : Int) (t227.length : Int) (rdOf ByteArray.empty t227 t230) t233).bind fun t257 => (if t257 = true then (none) else ((tree_Verify.f kj14 t231 (t227.length : Int) (-1) (rdOf ByteArray.empty t227 t230) t233).bind fun t259 => (if t259 = true then (none) else (if 1 + t231.size ≤ 9223372036854775807 then ((tree_Verify.f kj14 ((⟨#[104]⟩ : ByteArray) ++ t231) (t227.length : Int) t230 (rdOf ByteArray.empty t227 t230) t233).bind fun t261 => (if t261 = true then (none) else (if 1 + (rdOf ByteArray.empty t227 t230).size ≤ 9223372036854775807 then ((tree_Verify.f kj14 t231 (t227.length : Int) t230 ((⟨#[104]⟩ : ByteArray) ++ (rdOf ByteArray.empty t227 t230)) t233).bind fun t263 => (letterlocklaw10_TreeProves.j1 kj14 a3 t227 (t227.length : Int) t231 t233 t263)) else (none)))) else (none))))))))) else (none)) else (none)) else (none)) else (none))) = some r := H
      have A39 := Aside0.mk A390
      clear A390
      by_cases c40 : t243 = true
      ·subst c40
       have H1 : (none) = some r := by rw [if_pos rfl] at H; exact H
       clear H
       have H := H1
       clear H1
       exact absurd H (by simp)
      ·replace c40 := Bool.eq_false_iff.mpr c40
       subst c40
       have H1 : (if 0 ≤ t242 then (if t242 < (t227.length : Int) then (if 0 ≤ t230 then (if t230 < (t227.length : Int) then (if (rdOf ByteArray.empty t227 t242).toList = (rdOf ByteArray.empty t227 t230).toList then ((tree_Verify.f kj14 t231 (t227.length : Int) (t227.length : Int) (rdOf ByteArray.empty t227 t230) t233).bind fun t247 => (if t247 = true then (none) else ((tree_Verify.f kj14 t231 (t227.length : Int) (-1) (rdOf ByteArray.empty t227 t230) t233).bind fun t249 => (if t249 = true then (none) else (if 1 + t231.size ≤ 9223372036854775807 then ((tree_Verify.f kj14 ((⟨#[104]⟩ : ByteArray) ++ t231) (t227.length : Int) t230 (rdOf ByteArray.empty t227 t230) t233).bind fun t251 => (if t251 = true then (none) else (if 1 + (rdOf ByteArray.empty t227 t230).size ≤ 9223372036854775807 then ((tree_Verify.f kj14 t231 (t227.length : Int) t230 ((⟨#[104]⟩ : ByteArray) ++ (rdOf ByteArray.empty t227 t230)) t233).bind fun t253 => (letterlocklaw10_TreeProves.j1 kj14 a3 t227 (t227.length : Int) t231 t233 t253)) else (none)))) else (none)))))) else ((tree_Verify.f kj14 t231 (t227.length : Int) t230 (rdOf ByteArray.empty t227 t242) t233).bind fun t255 => (if t255 = true then (none) else ((tree_Verify.f kj14 t231 (t227.length : Int) (t227.length : Int) (rdOf ByteArray.empty t227 t230) t233).bind fun t257 => (if t257 = true then (none) else ((tree_Verify.f kj14 t231 (t227.length : Int) (-1) (rdOf ByteArray.empty t227 t230) t233).bind fun t259 => (if t259 = true then (none) else (if 1 + t231.size ≤ 9223372036854775807 then ((tree_Verify.f kj14 ((⟨#[104]⟩ : ByteArray) ++ t231) (t227.length : Int) t230 (rdOf ByteArray.empty t227 t230) t233).bind fun t261 => (if t261 = true then (none) else (if 1 + (rdOf ByteArray.empty t227 t230).size ≤ 9223372036854775807 then ((tree_Verify.f kj14 t231 (t227.length : Int) t230 ((⟨#[104]⟩ : ByteArray) ++ (rdOf ByteArray.empty t227 t230)) t233).bind fun t263 => (letterlocklaw10_TreeProves.j1 kj14 a3 t227 (t227.length : Int) t231 t233 t263)) else (none)))) else (none))))))))) else (none)) else (none)) else (none)) else (none)) = some r := by rw [if_neg (show ¬ (false = true) by decide)] at H; exact H
       clear H
       have H := H1
       clear H1
       by_cases c41 : 0 ≤ t242
       rotate_left
       ·rw [if_neg c41] at H
        exact absurd H (by simp)
       rw [if_pos c41] at H
       have c41b0 : decide (0 ≤ t242) = true := decide_eq_true c41
       clear c41
       (first | rw [c41b0] | (simp only [i64_w, i32_w]; rw [c41b0]) | skip)
       by_cases c42 : t242 < (t227.length : Int)
       rotate_left
       ·rw [if_neg c42] at H
        exact absurd H (by simp)
       rw [if_pos c42] at H
       have c42b0 : decide (t242 < (t227.length : Int)) = true := decide_eq_true c42
       clear c42
       by_cases c43 : 0 ≤ t230
       rotate_left
       ·rw [if_neg c43] at H
        exact absurd H (by simp)
       rw [if_pos c43] at H
       have c43b0 : decide (0 ≤ t230) = true := decide_eq_true c43
       clear c43
       by_cases c44 : t230 < (t227.length : Int)
       rotate_left
       ·rw [if_neg c44] at H
        exact absurd H (by simp)
       rw [if_pos c44] at H
       have c44b0 : decide (t230 < (t227.length : Int)) = true := decide_eq_true c44
       clear c44
       by_cases c45 : (rdOf ByteArray.empty t227 t242).toList = (rdOf ByteArray.empty t227 t230).toList
       ·rw [if_pos c45] at H
        have c45b0 : ((rdOf ByteArray.empty t227 t242).toList == (rdOf ByteArray.empty t227 t230).toList) = true := beq_iff_eq.mpr c45
        have c45b1 : ((rdOf ByteArray.empty t227 t242).toList != (rdOf ByteArray.empty t227 t230).toList) = false := bne_eq_false_iff_eq.mpr c45
        clear c45
        replace H := Option.bind_eq_some_iff.mp H
        obtain ⟨t247, A460, H⟩ := H
        replace H : (if t247 = true then (none) else ((tree_Verify.f kj14 t231 (t227.length : Int) (-1) (rdOf ByteArray.empty t227 t230) t233).bind fun t249 => (if t249 = true then (none) else (if 1 + t231.size ≤ 9223372036854775807 then ((tree_Verify.f kj14 ((⟨#[104]⟩ : ByteArray) ++ t231) (t227.length : Int) t230 (rdOf ByteArray.empty t227 t230) t233).bind fun t251 => (if t251 = true then (none) else (if 1 + (rdOf ByteArray.empty t227 t230).size ≤ 9223372036854775807 then ((tree_Verify.f kj14 t231 (t227.length : Int) t230 ((⟨#[104]⟩ : ByteArray) ++ (rdOf ByteArray.empty t227 t230)) t233).bind fun t253 => (letterlocklaw10_TreeProves.j1 kj14 a3 t227 (t227.length : Int) t231 t233 t253)) else (none)))) else (none))))) = some r := H
        have A46 := Aside0.mk A460
        clear A460
        by_cases c47 : t247 = true
        ·subst c47
         have H1 : (none) = some r := by rw [if_pos rfl] at H; exact H
         clear H
         have H := H1
         clear H1
         exact absurd H (by simp)
        ·replace c47 := Bool.eq_false_iff.mpr c47
         subst c47
         have H1 : ((tree_Verify.f kj14 t231 (t227.length : Int) (-1) (rdOf ByteArray.empty t227 t230) t233).bind fun t249 => (if t249 = true then (none) else (if 1 + t231.size ≤ 9223372036854775807 then ((tree_Verify.f kj14 ((⟨#[104]⟩ : ByteArray) ++ t231) (t227.length : Int) t230 (rdOf ByteArray.empty t227 t230) t233).bind fun t251 => (if t251 = true then (none) else (if 1 + (rdOf ByteArray.empty t227 t230).size ≤ 9223372036854775807 then ((tree_Verify.f kj14 t231 (t227.length : Int) t230 ((⟨#[104]⟩ : ByteArray) ++ (rdOf ByteArray.empty t227 t230)) t233).bind fun t253 => (letterlocklaw10_TreeProves.j1 kj14 a3 t227 (t227.length : Int) t231 t233 t253)) else (none)))) else (none)))) = some r := by rw [if_neg (show ¬ (false = true) by decide)] at H; exact H
         clear H
         have H := H1
         clear H1
         replace H := Option.bind_eq_some_iff.mp H
         obtain ⟨t249, A480, H⟩ := H
         replace H : (if t249 = true then (none) else (if 1 + t231.size ≤ 9223372036854775807 then ((tree_Verify.f kj14 ((⟨#[104]⟩ : ByteArray) ++ t231) (t227.length : Int) t230 (rdOf ByteArray.empty t227 t230) t233).bind fun t251 => (if t251 = true then (none) else (if 1 + (rdOf ByteArray.empty t227 t230).size ≤ 9223372036854775807 then ((tree_Verify.f kj14 t231 (t227.length : Int) t230 ((⟨#[104]⟩ : ByteArray) ++ (rdOf ByteArray.empty t227 t230)) t233).bind fun t253 => (letterlocklaw10_TreeProves.j1 kj14 a3 t227 (t227.length : Int) t231 t233 t253)) else (none)))) else (none))) = some r := H
         have A48 := Aside0.mk A480
         clear A480
         by_cases c49 : t249 = true
         ·subst c49
          have H1 : (none) = some r := by rw [if_pos rfl] at H; exact H
          clear H
          have H := H1
          clear H1
          exact absurd H (by simp)
         ·replace c49 := Bool.eq_false_iff.mpr c49
          subst c49
          have H1 : (if 1 + t231.size ≤ 9223372036854775807 then ((tree_Verify.f kj14 ((⟨#[104]⟩ : ByteArray) ++ t231) (t227.length : Int) t230 (rdOf ByteArray.empty t227 t230) t233).bind fun t251 => (if t251 = true then (none) else (if 1 + (rdOf ByteArray.empty t227 t230).size ≤ 9223372036854775807 then ((tree_Verify.f kj14 t231 (t227.length : Int) t230 ((⟨#[104]⟩ : ByteArray) ++ (rdOf ByteArray.empty t227 t230)) t233).bind fun t253 => (letterlocklaw10_TreeProves.j1 kj14 a3 t227 (t227.length : Int) t231 t233 t253)) else (none)))) else (none)) = some r := by rw [if_neg (show ¬ (false = true) by decide)] at H; exact H
          clear H
          have H := H1
          clear H1
          by_cases c50 : 1 + t231.size ≤ 9223372036854775807
          rotate_left
          ·rw [if_neg c50] at H
           exact absurd H (by simp)
          rw [if_pos c50] at H
          have c50b0 := eq_true c50
          have c50b1 : decide (1 + t231.size ≤ 9223372036854775807) = true := decide_eq_true c50
          try have c50b2 : (9223372036854775807 < 1 + t231.size) = False := eq_false (Nat.not_lt.2 c50)
          replace H := Option.bind_eq_some_iff.mp H
          obtain ⟨t251, A510, H⟩ := H
          replace H : (if t251 = true then (none) else (if 1 + (rdOf ByteArray.empty t227 t230).size ≤ 9223372036854775807 then ((tree_Verify.f kj14 t231 (t227.length : Int) t230 ((⟨#[104]⟩ : ByteArray) ++ (rdOf ByteArray.empty t227 t230)) t233).bind fun t253 => (letterlocklaw10_TreeProves.j1 kj14 a3 t227 (t227.length : Int) t231 t233 t253)) else (none))) = some r := H
          have A51 := Aside0.mk A510
          clear A510
          by_cases c52 : t251 = true
          ·subst c52
           have H1 : (none) = some r := by rw [if_pos rfl] at H; exact H
           clear H
           have H := H1
           clear H1
           exact absurd H (by simp)
          ·replace c52 := Bool.eq_false_iff.mpr c52
           subst c52
           have H1 : (if 1 + (rdOf ByteArray.empty t227 t230).size ≤ 9223372036854775807 then ((tree_Verify.f kj14 t231 (t227.length : Int) t230 ((⟨#[104]⟩ : ByteArray) ++ (rdOf ByteArray.empty t227 t230)) t233).bind fun t253 => (letterlocklaw10_TreeProves.j1 kj14 a3 t227 (t227.length : Int) t231 t233 t253)) else (none)) = some r := by rw [if_neg (show ¬ (false = true) by decide)] at H; exact H
           clear H
           have H := H1
           clear H1
           by_cases c53 : 1 + (rdOf ByteArray.empty t227 t230).size ≤ 9223372036854775807
           rotate_left
           ·rw [if_neg c53] at H
            exact absurd H (by simp)
           rw [if_pos c53] at H
           have c53b0 := eq_true c53
           have c53b1 : decide (1 + (rdOf ByteArray.empty t227 t230).size ≤ 9223372036854775807) = true := decide_eq_true c53
           try have c53b2 : (9223372036854775807 < 1 + (rdOf ByteArray.empty t227 t230).size) = False := eq_false (Nat.not_lt.2 c53)
           (try (have c53b0n := c53b0; simp only [ByteArray.size_append, ByteArray.size_extract, Nat.min_self, size_lit1, Int.natCast_add, Int.natCast_one] at c53b0n))
           (try (have c53b1n := c53b1; simp only [ByteArray.size_append, ByteArray.size_extract, Nat.min_self, size_lit1, Int.natCast_add, Int.natCast_one] at c53b1n))
           (try (have c53b2n := c53b2; simp only [ByteArray.size_append, ByteArray.size_extract, Nat.min_self, size_lit1, Int.natCast_add, Int.natCast_one] at c53b2n))
           replace H := Option.bind_eq_some_iff.mp H
           obtain ⟨t253, A540, H⟩ := H
           replace H : (letterlocklaw10_TreeProves.j1 kj14 a3 t227 (t227.length : Int) t231 t233 t253) = some r := H
           have A54 := Aside0.mk A540
           clear A540
           have H' := Aside0.mk H
           clear H
           try go_wp2
           have m0_ := Aside0.mk (Kd.R_drewN HO_10.out nd)
           have m1_ := Aside0.mk (Kd.R_drewN HO_15.out nd)
           have m2_ := Aside0.mk (pw_below_drewN HB.out nd)
           clear HO_10 HO_15 HB
           have HO_10 := m0_
           have HO_15 := m1_
           have HB := m2_
           clear m0_ m1_ m2_
           generalize w38.drewN nd = w38 at HO_10 HO_15 HB ⊢
           have n0_ := Aside0.mk (Kd.R_drew HO_10.out)
           have n1_ := Aside0.mk (Kd.R_drew HO_15.out)
           have n2_ := Aside0.mk (below_drew1 HB.out)
           clear HO_10
           clear HO_15
           clear HB
           have HO_10 := n0_
           have HO_15 := n1_
           have HB := n2_
           clear n0_ n1_ n2_
           obtain ⟨Ao56, co56, eo56⟩ := Kd.R_slice HO_15.out
           (first | subst eo56 | (injection eo56 with f1_ f2_ f3_; have f4_ := f1_.symm; have f5_ := f3_.symm; clear f1_ f2_ f3_; subst f4_; subst f5_))
           have p244 : 0 ≤ (t242 : Int) := of_decide_eq_true (by first | (with_reducible assumption) | assumption)
           have q244 : t242 < (t227.length : Int) := of_decide_eq_true (by first | (with_reducible assumption) | assumption)
           obtain ⟨ad244, e244, hx244_0⟩ := Kd.at_string (Kd.R_reads' HO_10.out).2.2 t242 p244 q244
           cases e244
           replace p244 := eq_true p244
           replace q244 := eq_true q244
           have p245 : 0 ≤ (t230 : Int) := of_decide_eq_true (by first | (with_reducible assumption) | assumption)
           have q245 : t230 < (t227.length : Int) := of_decide_eq_true (by first | (with_reducible assumption) | assumption)
           obtain ⟨ad245, e245, hx245_0⟩ := Kd.at_string (Kd.R_reads' HO_10.out).2.2 t230 p245 q245
           obtain rfl : ad244 = ad245 := (by injection e245)
           replace p245 := eq_true p245
           replace q245 := eq_true q245
           have p246 : 0 ≤ (t230 : Int) := of_decide_eq_true (by first | (with_reducible assumption) | assumption)
           have q246 : t230 < (t227.length : Int) := of_decide_eq_true (by first | (with_reducible assumption) | assumption)
           obtain ⟨ad246, e246, hx246_0⟩ := Kd.at_string (Kd.R_reads' HO_10.out).2.2 t230 p246 q246
           obtain rfl : ad244 = ad246 := (by injection e246)
           replace p246 := eq_true p246
           replace q246 := eq_true q246
           have p248 : 0 ≤ (t230 : Int) := of_decide_eq_true (by first | (with_reducible assumption) | assumption)
           have q248 : t230 < (t227.length : Int) := of_decide_eq_true (by first | (with_reducible assumption) | assumption)
           obtain ⟨ad248, e248, hx248_0⟩ := Kd.at_string (Kd.R_reads' HO_10.out).2.2 t230 p248 q248
           obtain rfl : ad244 = ad248 := (by injection e248)
           replace p248 := eq_true p248
           replace q248 := eq_true q248
           have p250 : 0 ≤ (t230 : Int) := of_decide_eq_true (by first | (with_reducible assumption) | assumption)
           have q250 : t230 < (t227.length : Int) := of_decide_eq_true (by first | (with_reducible assumption) | assumption)
           obtain ⟨ad250, e250, hx250_0⟩ := Kd.at_string (Kd.R_reads' HO_10.out).2.2 t230 p250 q250
           obtain rfl : ad244 = ad250 := (by injection e250)
           replace p250 := eq_true p250
           replace q250 := eq_true q250
           have p252 : 0 ≤ (t230 : Int) := of_decide_eq_true (by first | (with_reducible assumption) | assumption)
           have q252 : t230 < (t227.length : Int) := of_decide_eq_true (by first | (with_reducible assumption) | assumption)
           obtain ⟨ad252, e252, hx252_0⟩ := Kd.at_string (Kd.R_reads' HO_10.out).2.2 t230 p252 q252
           obtain rfl : ad244 = ad252 := (by injection e252)
           replace p252 := eq_true p252
           replace q252 := eq_true q252
           refine start_ (n := 73) (S := fun w' => w'.cell? (ad244.add (t242).toNat) = some (.string (rdOf ByteArray.empty t227 t242)) ∧ w'.cell? (ad244.add (t230).toNat) = some (.string (rdOf ByteArray.empty t227 t230)) ∧ w'.cell? (ad244.add (t230).toNat) = some (.string (rdOf ByteArray.empty t227 t230)) ∧ w'.cell? (ad244.add (t230).toNat) = some (.string (rdOf ByteArray.empty t227 t230)) ∧ w'.cell? (ad244.add (t230).toNat) = some (.string (rdOf ByteArray.empty t227 t230)) ∧ w'.cell? (ad244.add (t230).toNat) = some (.string (rdOf ByteArray.empty t227 t230))) (ds := []) (upto 73 0) (by kernel_rfl) rfl rfl ⟨hx244_0, hx245_0, hx246_0, hx248_0, hx250_0, hx252_0⟩ (fun hHeld => ?_); refine with_tabW letterlocklaw10_TreeProves.tab13 letterlocklaw10_TreeProves.bits13 (fun HT_ HW_ => ?_)
           generalize w38.drew = w55 at HO_10 HO_15 HB hx244_0 hx245_0 hx246_0 hx248_0 hx250_0 hx252_0 hHeld ⊢
           refine pure_ (i := 0) (N := some 91) (v := ?_) (a' := ?_) (upto 73 1) rfl rfl (any_of HT_.out (by kernel_rfl)) (fun _ _ _ h => h) (Or.inl ⟨by rfl, ?_⟩) ?_ ?_
           rotate_left
           ·intro w'
            go_simp
            with_reducible rfl
           rotate_left
           ·simp only [Act.put, aA, aB, aC, i64_w, i32_w]
            rfl
           refine pure_ (i := 1) (N := some 92) (v := ?_) (a' := ?_) (upto 73 2) rfl rfl (any_of HT_.out (by kernel_rfl)) (fun _ _ _ h => h) (Or.inl ⟨by rfl, ?_⟩) ?_ ?_
           rotate_left
           ·intro w'
            go_simp
            with_reducible rfl
           rotate_left
           ·simp only [Act.put, aA, aB, aC, i64_w, i32_w]
            rfl
           refine pure_ (i := 2) (N := some 93) (v := ?_) (a' := ?_) (upto 73 3) rfl rfl (any_of HT_.out (by kernel_rfl)) (fun _ _ _ h => h) (Or.inl ⟨by rfl, ?_⟩) ?_ ?_
           rotate_left
           ·intro w'
            go_simp
            with_reducible rfl
           rotate_left
           ·simp only [Act.put, aA, aB, aC, i64_w, i32_w]
            rfl
           refine pure_ (i := 3) (N := some 94) (v := ?_) (a' := ?_) (upto 73 4) rfl rfl (any_of HT_.out (by kernel_rfl)) (fun _ _ _ h => h) (Or.inl ⟨by rfl, ?_⟩) ?_ ?_
           rotate_left
           ·intro w'
            go_simp
            with_reducible rfl
           rotate_left
           ·simp only [Act.put, aA, aB, aC, i64_w, i32_w]
            rfl
           refine pure_ (i := 4) (N := some 95) (v := ?_) (a' := ?_) (upto 73 5) rfl rfl (any_of HT_.out (by kernel_rfl)) (fun _ _ _ h => h) (Or.inl ⟨by rfl, ?_⟩) ?_ ?_
           rotate_left
           ·intro w'
            go_simp
            with_reducible rfl
           rotate_left
           ·simp only [Act.put, aA, aB, aC, i64_w, i32_w]
            rfl
           refine one_ (i := 5) (N := some 96) (upto 73 6) rfl rfl (one_of HT_.out (by kernel_rfl)) (by decide) (fun K hK => ?_)
           refine goes_ Try.func23 (by kernel_rfl) rfl #[.string t231, .int .i64 (t227.length : Int), .int .i64 t230, .string t240, .slice Ao56 t233.length co56] (by rfl) rfl rfl (by (try simp only [List.map_toArray, List.map_cons, List.map_nil]); first | done | rfl | (simp only [List.length_drop, List.length_take]; rfl)) ?_
           with_reducible refine (tree_Verify.calls kj14 t231 (t227.length : Int) t230 t240 _ _ t233 false _ ?side1 ?side2 A39.out).mono ?_
           (case side1 => repeat (first | exact (Kd.R_reads' HO_15.out).2.2 | (with_reducible refine Kd.C_alloc ?_ _) | (with_reducible refine Kd.C_drewN ?_ _) | (with_reducible refine Kd.C_drew ?_)))
           (case side2 => exact (Kd.R_reads' HO_15.out).2.1)
           rintro e w57 ⟨rfl, hb⟩
           have HS0_ := (hb.cell (World.block_lt_of_cell? _ _ (hHeld.1))).trans (hHeld.1)
           have HS1_ := (hb.cell (World.block_lt_of_cell? _ _ (hHeld.2.1))).trans (hHeld.2.1)
           have HS2_ := (hb.cell (World.block_lt_of_cell? _ _ (hHeld.2.2.1))).trans (hHeld.2.2.1)
           have HS3_ := (hb.cell (World.block_lt_of_cell? _ _ (hHeld.2.2.2.1))).trans (hHeld.2.2.2.1)
           have HS4_ := (hb.cell (World.block_lt_of_cell? _ _ (hHeld.2.2.2.2.1))).trans (hHeld.2.2.2.2.1)
           have HS5_ := (hb.cell (World.block_lt_of_cell? _ _ (hHeld.2.2.2.2.2))).trans (hHeld.2.2.2.2.2)
           refine ⟨_, rfl, ?_⟩
           have n0_ := Aside0.mk (Kd.R_below (by (with_reducible repeat (first | apply Kd.R_alloc | apply Kd.R_drewN | apply Kd.R_drew)); exact HO_10.out) hb)
           have n1_ := Aside0.mk (Kd.R_below (by (with_reducible repeat (first | apply Kd.R_alloc | apply Kd.R_drewN | apply Kd.R_drew)); exact HO_15.out) hb)
           have n2_ := Aside0.mk (below_step (by repeat (first | (with_reducible first | exact HB.out | apply below_alloc | apply pw_below_drewN | apply below_drew1) | exact HB.out)) hb)
           clear HO_10
           clear HO_15
           clear HB
           have HO_10 := n0_
           have HO_15 := n1_
           have HB := n2_
           clear n0_ n1_ n2_
           (try clear hb)
           (try clear hb2)
           (try clear hk)
           (try clear hi)
           refine hK.out _ _ ⟨HS0_, HS1_, HS2_, HS3_, HS4_, HS5_⟩ (fun hHeld => ?_)
           clear hK K
           refine norm_ (a' := ?_) ?_ ?_
           rotate_left
           ·show Act.put _ (some 96) _ = _
            simp only [Act.put, aA, aB, aC, i64_w, i32_w]
            rfl
           refine pure_ (i := 6) (N := some 97) (v := ?_) (a' := ?_) (upto 73 7) rfl rfl (any_of HT_.out (by kernel_rfl)) (fun _ _ _ h => h) (Or.inl ⟨by rfl, ?_⟩) ?_ ?_
           rotate_left
           ·intro w'
            go_simp
            with_reducible rfl
           rotate_left
           ·simp only [Act.put, aA, aB, aC, i64_w, i32_w]
            rfl
           refine pure_ (i := 7) (N := some 98) (v := ?_) (a' := ?_) (upto 73 8) rfl rfl (any_of HT_.out (by kernel_rfl)) (fun _ _ _ h => h) (Or.inl ⟨by rfl, ?_⟩) ?_ ?_
           rotate_left
           ·intro w'
            go_simp
            with_reducible rfl
           rotate_left
           ·simp only [Act.put, aA, aB, aC, i64_w, i32_w]
            rfl
           refine pure_ (i := 8) (N := some 99) (v := ?_) (a' := ?_) (upto 73 9) rfl rfl (any_of HT_.out (by kernel_rfl)) (fun _ _ _ h => h) (Or.inl ⟨by rfl, ?_⟩) ?_ ?_
           rotate_left
           ·intro w'
            go_simp
            with_reducible rfl
           rotate_left
           ·simp only [Act.put, aA, aB, aC, i64_w, i32_w]
            rfl
           refine pure_ (i := 9) (N := some 100) (v := ?_) (a' := ?_) (upto 73 10) rfl rfl (any_of HT_.out (by kernel_rfl)) (fun _ _ _ h => h) (Or.inl ⟨by rfl, ?_⟩) ?_ ?_
           rotate_left
           ·intro w'
            go_simp
            with_reducible rfl
           rotate_left
           ·simp only [Act.put, aA, aB, aC, i64_w, i32_w]
            rfl
           refine pure_ (i := 11) (N := some 102) (v := ?_) (a' := ?_) #[T_,T_,T_,T_,T_,T_,T_,T_,T_,T_,F_,T_,F_,F_,F_,F_,F_,F_,F_,F_,F_,F_,F_,F_,F_,F_,F_,F_,F_,F_,F_,F_,F_,F_,F_,F_,F_,F_,F_,F_,F_,F_,F_,F_,F_,F_,F_,F_,F_,F_,F_,F_,F_,F_,F_,F_,F_,F_,F_,F_,F_,F_,F_,F_,F_,F_,F_,F_,F_,F_,F_,F_,F_] rfl rfl (any_of HT_.out (by kernel_rfl)) (fun _ _ _ h => h) (Or.inl ⟨by rfl, ?_⟩) ?_ ?_
           rotate_left
           ·intro w'
            go_simp
            with_reducible rfl
           rotate_left
           ·simp only [Act.put, aA, aB, aC, i64_w, i32_w]
            rfl
           refine pure_ (i := 12) (N := some 103) (v := ?_) (a' := ?_) #[T_,T_,T_,T_,T_,T_,T_,T_,T_,T_,F_,T_,T_,F_,F_,F_,F_,F_,F_,F_,F_,F_,F_,F_,F_,F_,F_,F_,F_,F_,F_,F_,F_,F_,F_,F_,F_,F_,F_,F_,F_,F_,F_,F_,F_,F_,F_,F_,F_,F_,F_,F_,F_,F_,F_,F_,F_,F_,F_,F_,F_,F_,F_,F_,F_,F_,F_,F_,F_,F_,F_,F_,F_] rfl rfl (any_of HT_.out (by kernel_rfl)) (fun _ _ _ h => h) (Or.inl ⟨by rfl, ?_⟩) ?_ ?_
           rotate_left
           ·intro w'
            go_simp
            with_reducible rfl
           rotate_left
           ·simp only [Act.put, aA, aB, aC, i64_w, i32_w]
            rfl
           refine pure_ (i := 13) (N := some 104) (v := ?_) (a' := ?_) #[T_,T_,T_,T_,T_,T_,T_,T_,T_,T_,F_,T_,T_,T_,F_,F_,F_,F_,F_,F_,F_,F_,F_,F_,F_,F_,F_,F_,F_,F_,F_,F_,F_,F_,F_,F_,F_,F_,F_,F_,F_,F_,F_,F_,F_,F_,F_,F_,F_,F_,F_,F_,F_,F_,F_,F_,F_,F_,F_,F_,F_,F_,F_,F_,F_,F_,F_,F_,F_,F_,F_,F_,F_] rfl rfl (any_of HT_.out (by kernel_rfl)) (fun _ _ _ h => h) (Or.inl ⟨by rfl, ?_⟩) ?_ ?_
           rotate_left
           ·intro w'
            go_simp
            with_reducible rfl
           rotate_left
           ·simp only [Act.put, aA, aB, aC, i64_w, i32_w]
            rfl
           refine take_ (i := 10) (N := some 101) (v := ?_) (a' := ?_) (upto 73 14) rfl rfl (take_ofW HT_.out HW_.out (by kernel_rfl)) (fun _ _ _ h => h) (Or.inl ⟨by rfl, ?_⟩) hHeld ?_ ?_
           rotate_left
           ·rintro w' ⟨s0, s1, s2, s3, s4, s5⟩
            go_simp
            with_reducible rfl
           rotate_left
           ·simp only [Act.put, aA, aB, aC, i64_w, i32_w]
            rfl
           refine take_ (i := 14) (N := some 105) (v := ?_) (a' := ?_) (upto 73 15) rfl rfl (take_ofW HT_.out HW_.out (by kernel_rfl)) (fun _ _ _ h => h) (Or.inl ⟨by rfl, ?_⟩) hHeld ?_ ?_
           rotate_left
           ·rintro w' ⟨s0, s1, s2, s3, s4, s5⟩
            go_simp
            with_reducible rfl
           rotate_left
           ·simp only [Act.put, aA, aB, aC, i64_w, i32_w]
            rfl
           refine pure_ (i := 15) (N := some 106) (v := ?_) (a' := ?_) (upto 73 16) rfl rfl (any_of HT_.out (by kernel_rfl)) (fun _ _ _ h => h) (Or.inl ⟨by rfl, ?_⟩) ?_ ?_
           rotate_left
           ·intro w'
            go_simp
            with_reducible rfl
           rotate_left
           ·simp only [Act.put, aA, aB, aC, i64_w, i32_w]
            rfl
           refine pure_ (i := 16) (N := some 107) (v := ?_) (a' := ?_) (upto 73 17) rfl rfl (any_of HT_.out (by kernel_rfl)) (fun _ _ _ h => h) (Or.inl ⟨by rfl, ?_⟩) ?_ ?_
           rotate_left
           ·intro w'
            go_simp
            with_reducible rfl
           rotate_left
           ·simp only [Act.put, aA, aB, aC, i64_w, i32_w]
            rfl
           refine pure_ (i := 17) (N := some 108) (v := undef) (a' := ?_) (upto 73 18) rfl rfl (any_of HT_.out (by kernel_rfl)) (fun _ _ _ h => h) (Or.inr ⟨by rfl, rfl⟩) ?_ ?_
           rotate_left
           ·simp only [Act.put, aA, aB, aC, i64_w, i32_w]
            rfl
           refine pure_ (i := 18) (N := some 109) (v := undef) (a' := ?_) (upto 73 19) rfl rfl (any_of HT_.out (by kernel_rfl)) (fun _ _ _ h => h) (Or.inr ⟨by rfl, rfl⟩) ?_ ?_
           rotate_left
           ·simp only [Act.put, aA, aB, aC, i64_w, i32_w]
            rfl
           refine pure_ (i := 19) (N := some 110) (v := undef) (a' := ?_) (upto 73 20) rfl rfl (any_of HT_.out (by kernel_rfl)) (fun _ _ _ h => h) (Or.inr ⟨by rfl, rfl⟩) ?_ ?_
           rotate_left
           ·simp only [Act.put, aA, aB, aC, i64_w, i32_w]
            rfl
           refine pure_ (i := 20) (N := some 111) (v := undef) (a' := ?_) (upto 73 21) rfl rfl (any_of HT_.out (by kernel_rfl)) (fun _ _ _ h => h) (Or.inr ⟨by rfl, rfl⟩) ?_ ?_
           rotate_left
           ·simp only [Act.put, aA, aB, aC, i64_w, i32_w]
            rfl
           refine pure_ (i := 21) (N := some 112) (v := undef) (a' := ?_) (upto 73 22) rfl rfl (any_of HT_.out (by kernel_rfl)) (fun _ _ _ h => h) (Or.inr ⟨by rfl, rfl⟩) ?_ ?_
           rotate_left
           ·simp only [Act.put, aA, aB, aC, i64_w, i32_w]
            rfl
           refine pure_ (i := 22) (N := some 113) (v := undef) (a' := ?_) (upto 73 23) rfl rfl (any_of HT_.out (by kernel_rfl)) (fun _ _ _ h => h) (Or.inr ⟨by rfl, rfl⟩) ?_ ?_
           rotate_left
           ·simp only [Act.put, aA, aB, aC, i64_w, i32_w]
            rfl
           refine pure_ (i := 23) (N := some 114) (v := undef) (a' := ?_) (upto 73 24) rfl rfl (any_of HT_.out (by kernel_rfl)) (fun _ _ _ h => h) (Or.inr ⟨by rfl, rfl⟩) ?_ ?_
           rotate_left
           ·simp only [Act.put, aA, aB, aC, i64_w, i32_w]
            rfl
           refine pure_ (i := 24) (N := some 115) (v := undef) (a' := ?_) (upto 73 25) rfl rfl (any_of HT_.out (by kernel_rfl)) (fun _ _ _ h => h) (Or.inr ⟨by rfl, rfl⟩) ?_ ?_
           rotate_left
           ·simp only [Act.put, aA, aB, aC, i64_w, i32_w]
            rfl
           refine pure_ (i := 25) (N := some 116) (v := undef) (a' := ?_) (upto 73 26) rfl rfl (any_of HT_.out (by kernel_rfl)) (fun _ _ _ h => h) (Or.inr ⟨by rfl, rfl⟩) ?_ ?_
           rotate_left
           ·simp only [Act.put, aA, aB, aC, i64_w, i32_w]
            rfl
           refine pure_ (i := 26) (N := some 117) (v := ?_) (a' := ?_) (upto 73 27) rfl rfl (any_of HT_.out (by kernel_rfl)) (fun _ _ _ h => h) (Or.inl ⟨by rfl, ?_⟩) ?_ ?_
           rotate_left
           ·intro w'
            go_simp
            with_reducible rfl
           rotate_left
           ·simp only [Act.put, aA, aB, aC, i64_w, i32_w]
            rfl
           refine pure_ (i := 27) (N := some 118) (v := ?_) (a' := ?_) (upto 73 28) rfl rfl (any_of HT_.out (by kernel_rfl)) (fun _ _ _ h => h) (Or.inl ⟨by rfl, ?_⟩) ?_ ?_
           rotate_left
           ·intro w'
            go_simp
            with_reducible rfl
           rotate_left
           ·simp only [Act.put, aA, aB, aC, i64_w, i32_w]
            rfl
           refine pure_ (i := 28) (N := some 119) (v := ?_) (a' := ?_) (upto 73 29) rfl rfl (any_of HT_.out (by kernel_rfl)) (fun _ _ _ h => h) (Or.inl ⟨by rfl, ?_⟩) ?_ ?_
           rotate_left
           ·intro w'
            go_simp
            with_reducible rfl
           rotate_left
           ·simp only [Act.put, aA, aB, aC, i64_w, i32_w]
            rfl
           refine pure_ (i := 29) (N := some 120) (v := ?_) (a' := ?_) (upto 73 30) rfl rfl (any_of HT_.out (by kernel_rfl)) (fun _ _ _ h => h) (Or.inl ⟨by rfl, ?_⟩) ?_ ?_
           rotate_left
           ·intro w'
            go_simp
            with_reducible rfl
           rotate_left
           ·simp only [Act.put, aA, aB, aC, i64_w, i32_w]
            rfl
           refine pure_ (i := 30) (N := some 121) (v := ?_) (a' := ?_) (upto 73 31) rfl rfl (any_of HT_.out (by kernel_rfl)) (fun _ _ _ h => h) (Or.inl ⟨by rfl, ?_⟩) ?_ ?_
           rotate_left
           ·intro w'
            go_simp
            with_reducible rfl
           rotate_left
           ·simp only [Act.put, aA, aB, aC, i64_w, i32_w]
            rfl
           refine pure_ (i := 31) (N := some 122) (v := ?_) (a' := ?_) (upto 73 32) rfl rfl (any_of HT_.out (by kernel_rfl)) (fun _ _ _ h => h) (Or.inl ⟨by rfl, ?_⟩) ?_ ?_
           rotate_left
           ·intro w'
            go_simp
            with_reducible rfl
           rotate_left
           ·simp only [Act.put, aA, aB, aC, i64_w, i32_w]
            rfl
           refine pure_ (i := 32) (N := some 123) (v := ?_) (a' := ?_) (upto 73 33) rfl rfl (any_of HT_.out (by kernel_rfl)) (fun _ _ _ h => h) (Or.inl ⟨by rfl, ?_⟩) ?_ ?_
           rotate_left
           ·intro w'
            go_simp
            with_reducible rfl
           rotate_left
           ·simp only [Act.put, aA, aB, aC, i64_w, i32_w]
            rfl
           refine pure_ (i := 33) (N := some 124) (v := ?_) (a' := ?_) (upto 73 34) rfl rfl (any_of HT_.out (by kernel_rfl)) (fun _ _ _ h => h) (Or.inl ⟨by rfl, ?_⟩) ?_ ?_
           rotate_left
           ·intro w'
            go_simp
            with_reducible rfl
           rotate_left
           ·simp only [Act.put, aA, aB, aC, i64_w, i32_w]
            rfl
           refine pure_ (i := 34) (N := some 125) (v := ?_) (a' := ?_) (upto 73 35) rfl rfl (any_of HT_.out (by kernel_rfl)) (fun _ _ _ h => h) (Or.inl ⟨by rfl, ?_⟩) ?_ ?_
           rotate_left
           ·intro w'
            go_simp
            with_reducible rfl
           rotate_left
           ·simp only [Act.put, aA, aB, aC, i64_w, i32_w]
            rfl
           refine pure_ (i := 36) (N := some 127) (v := ?_) (a' := ?_) #[T_,T_,T_,T_,T_,T_,T_,T_,T_,T_,T_,T_,T_,T_,T_,T_,T_,T_,T_,T_,T_,T_,T_,T_,T_,T_,T_,T_,T_,T_,T_,T_,T_,T_,T_,F_,T_,F_,F_,F_,F_,F_,F_,F_,F_,F_,F_,F_,F_,F_,F_,F_,F_,F_,F_,F_,F_,F_,F_,F_,F_,F_,F_,F_,F_,F_,F_,F_,F_,F_,F_,F_,F_] rfl rfl (any_of HT_.out (by kernel_rfl)) (fun _ _ _ h => h) (Or.inl ⟨by rfl, ?_⟩) ?_ ?_
           rotate_left
           ·intro w'
            go_simp
            with_reducible rfl
           rotate_left
           ·simp only [Act.put, aA, aB, aC, i64_w, i32_w]
            rfl
           refine take_ (i := 35) (N := some 126) (v := ?_) (a' := ?_) (upto 73 37) rfl rfl (take_ofW HT_.out HW_.out (by kernel_rfl)) (fun _ _ _ h => h) (Or.inl ⟨by rfl, ?_⟩) hHeld ?_ ?_
           rotate_left
           ·rintro w' ⟨s0, s1, s2, s3, s4, s5⟩
            go_simp
            with_reducible rfl
           rotate_left
           ·simp only [Act.put, aA, aB, aC, i64_w, i32_w]
            rfl
           refine one_ (i := 37) (N := some 128) (upto 73 38) rfl rfl (one_of HT_.out (by kernel_rfl)) (by decide) (fun K hK => ?_)
           refine goes_ Try.func23 (by kernel_rfl) rfl #[.string t231, .int .i64 (t227.length : Int), .int .i64 (t227.length : Int), .string (rdOf ByteArray.empty t227 t230), .slice Ao56 t233.length co56] (by rfl) rfl rfl (by (try simp only [List.map_toArray, List.map_cons, List.map_nil]); first | done | rfl | (simp only [List.length_drop, List.length_take]; rfl)) ?_
           with_reducible refine (tree_Verify.calls kj14 t231 (t227.length : Int) (t227.length : Int) (rdOf ByteArray.empty t227 t230) _ _ t233 false _ ?side1 ?side2 A46.out).mono ?_
           (case side1 => repeat (first | exact (Kd.R_reads' HO_15.out).2.2 | (with_reducible refine Kd.C_alloc ?_ _) | (with_reducible refine Kd.C_drewN ?_ _) | (with_reducible refine Kd.C_drew ?_)))
           (case side2 => exact (Kd.R_reads' HO_15.out).2.1)
           rintro e w58 ⟨rfl, hb⟩
           have HS0_ := (hb.cell (World.block_lt_of_cell? _ _ (hHeld.1))).trans (hHeld.1)
           have HS1_ := (hb.cell (World.block_lt_of_cell? _ _ (hHeld.2.1))).trans (hHeld.2.1)
           have HS2_ := (hb.cell (World.block_lt_of_cell? _ _ (hHeld.2.2.1))).trans (hHeld.2.2.1)
           have HS3_ := (hb.cell (World.block_lt_of_cell? _ _ (hHeld.2.2.2.1))).trans (hHeld.2.2.2.1)
           have HS4_ := (hb.cell (World.block_lt_of_cell? _ _ (hHeld.2.2.2.2.1))).trans (hHeld.2.2.2.2.1)
           have HS5_ := (hb.cell (World.block_lt_of_cell? _ _ (hHeld.2.2.2.2.2))).trans (hHeld.2.2.2.2.2)
           refine ⟨_, rfl, ?_⟩
           have n0_ := Aside0.mk (Kd.R_below (by (with_reducible repeat (first | apply Kd.R_alloc | apply Kd.R_drewN | apply Kd.R_drew)); exact HO_10.out) hb)
           have n1_ := Aside0.mk (Kd.R_below (by (with_reducible repeat (first | apply Kd.R_alloc | apply Kd.R_drewN | apply Kd.R_drew)); exact HO_15.out) hb)
           have n2_ := Aside0.mk (below_step (by repeat (first | (with_reducible first | exact HB.out | apply below_alloc | apply pw_below_drewN | apply below_drew1) | exact HB.out)) hb)
           clear HO_10
           clear HO_15
           clear HB
           have HO_10 := n0_
           have HO_15 := n1_
           have HB := n2_
           clear n0_ n1_ n2_
           (try clear hb)
           (try clear hb2)
           (try clear hk)
           (try clear hi)
           refine hK.out _ _ ⟨HS0_, HS1_, HS2_, HS3_, HS4_, HS5_⟩ (fun hHeld => ?_)
           clear hK K
           refine norm_ (a' := ?_) ?_ ?_
           rotate_left
           ·show Act.put _ (some 128) _ = _
            simp only [Act.put, aA, aB, aC, i64_w, i32_w]
            rfl
           refine pure_ (i := 38) (N := some 129) (v := ?_) (a' := ?_) (upto 73 39) rfl rfl (any_of HT_.out (by kernel_rfl)) (fun _ _ _ h => h) (Or.inl ⟨by rfl, ?_⟩) ?_ ?_
           rotate_left
           ·intro w'
            go_simp
            with_reducible rfl
           rotate_left
           ·simp only [Act.put, aA, aB, aC, i64_w, i32_w]
            rfl
           refine pure_ (i := 39) (N := some 130) (v := ?_) (a' := ?_) (upto 73 40) rfl rfl (any_of HT_.out (by kernel_rfl)) (fun _ _ _ h => h) (Or.inl ⟨by rfl, ?_⟩) ?_ ?_
           rotate_left
           ·intro w'
            go_simp
            with_reducible rfl
           rotate_left
           ·simp only [Act.put, aA, aB, aC, i64_w, i32_w]
            rfl
           refine pure_ (i := 40) (N := some 131) (v := ?_) (a' := ?_) (upto 73 41) rfl rfl (any_of HT_.out (by kernel_rfl)) (fun _ _ _ h => h) (Or.inl ⟨by rfl, ?_⟩) ?_ ?_
           rotate_left
           ·intro w'
            go_simp
            with_reducible rfl
           rotate_left
           ·simp only [Act.put, aA, aB, aC, i64_w, i32_w]
            rfl
           refine pure_ (i := 41) (N := some 132) (v := ?_) (a' := ?_) (upto 73 42) rfl rfl (any_of HT_.out (by kernel_rfl)) (fun _ _ _ h => h) (Or.inl ⟨by rfl, ?_⟩) ?_ ?_
           rotate_left
           ·intro w'
            go_simp
            with_reducible rfl
           rotate_left
           ·simp only [Act.put, aA, aB, aC, i64_w, i32_w]
            rfl
           refine pure_ (i := 42) (N := some 133) (v := ?_) (a' := ?_) (upto 73 43) rfl rfl (any_of HT_.out (by kernel_rfl)) (fun _ _ _ h => h) (Or.inl ⟨by rfl, ?_⟩) ?_ ?_
           rotate_left
           ·intro w'
            go_simp
            with_reducible rfl
           rotate_left
           ·simp only [Act.put, aA, aB, aC, i64_w, i32_w]
            rfl
           refine pure_ (i := 43) (N := some 134) (v := ?_) (a' := ?_) (upto 73 44) rfl rfl (any_of HT_.out (by kernel_rfl)) (fun _ _ _ h => h) (Or.inl ⟨by rfl, ?_⟩) ?_ ?_
           rotate_left
           ·intro w'
            go_simp
            with_reducible rfl
           rotate_left
           ·simp only [Act.put, aA, aB, aC, i64_w, i32_w]
            rfl
           refine pure_ (i := 44) (N := some 135) (v := ?_) (a' := ?_) (upto 73 45) rfl rfl (any_of HT_.out (by kernel_rfl)) (fun _ _ _ h => h) (Or.inl ⟨by rfl, ?_⟩) ?_ ?_
           rotate_left
           ·intro w'
            go_simp
            with_reducible rfl
           rotate_left
           ·simp only [Act.put, aA, aB, aC, i64_w, i32_w]
            rfl
           refine pure_ (i := 46) (N := some 137) (v := ?_) (a' := ?_) #[T_,T_,T_,T_,T_,T_,T_,T_,T_,T_,T_,T_,T_,T_,T_,T_,T_,T_,T_,T_,T_,T_,T_,T_,T_,T_,T_,T_,T_,T_,T_,T_,T_,T_,T_,T_,T_,T_,T_,T_,T_,T_,T_,T_,T_,F_,T_,F_,F_,F_,F_,F_,F_,F_,F_,F_,F_,F_,F_,F_,F_,F_,F_,F_,F_,F_,F_,F_,F_,F_,F_,F_,F_] rfl rfl (any_of HT_.out (by kernel_rfl)) (fun _ _ _ h => h) (Or.inl ⟨by rfl, ?_⟩) ?_ ?_
           rotate_left
           ·intro w'
            go_simp
            with_reducible rfl
           rotate_left
           ·simp only [Act.put, aA, aB, aC, i64_w, i32_w]
            rfl
           refine take_ (i := 45) (N := some 136) (v := ?_) (a' := ?_) (upto 73 47) rfl rfl (take_ofW HT_.out HW_.out (by kernel_rfl)) (fun _ _ _ h => h) (Or.inl ⟨by rfl, ?_⟩) hHeld ?_ ?_
           rotate_left
           ·rintro w' ⟨s0, s1, s2, s3, s4, s5⟩
            go_simp
            with_reducible rfl
           rotate_left
           ·simp only [Act.put, aA, aB, aC, i64_w, i32_w]
            rfl
           refine one_ (i := 47) (N := some 138) (upto 73 48) rfl rfl (one_of HT_.out (by kernel_rfl)) (by decide) (fun K hK => ?_)
           refine goes_ Try.func23 (by kernel_rfl) rfl #[.string t231, .int .i64 (t227.length : Int), .int .i64 (-1), .string (rdOf ByteArray.empty t227 t230), .slice Ao56 t233.length co56] (by rfl) rfl rfl (by (try simp only [List.map_toArray, List.map_cons, List.map_nil]); first | done | rfl | (simp only [List.length_drop, List.length_take]; rfl)) ?_
           with_reducible refine (tree_Verify.calls kj14 t231 (t227.length : Int) (-1) (rdOf ByteArray.empty t227 t230) _ _ t233 false _ ?side1 ?side2 A48.out).mono ?_
           (case side1 => repeat (first | exact (Kd.R_reads' HO_15.out).2.2 | (with_reducible refine Kd.C_alloc ?_ _) | (with_reducible refine Kd.C_drewN ?_ _) | (with_reducible refine Kd.C_drew ?_)))
           (case side2 => exact (Kd.R_reads' HO_15.out).2.1)
           rintro e w59 ⟨rfl, hb⟩
           have HS0_ := (hb.cell (World.block_lt_of_cell? _ _ (hHeld.1))).trans (hHeld.1)
           have HS1_ := (hb.cell (World.block_lt_of_cell? _ _ (hHeld.2.1))).trans (hHeld.2.1)
           have HS2_ := (hb.cell (World.block_lt_of_cell? _ _ (hHeld.2.2.1))).trans (hHeld.2.2.1)
           have HS3_ := (hb.cell (World.block_lt_of_cell? _ _ (hHeld.2.2.2.1))).trans (hHeld.2.2.2.1)
           have HS4_ := (hb.cell (World.block_lt_of_cell? _ _ (hHeld.2.2.2.2.1))).trans (hHeld.2.2.2.2.1)
           have HS5_ := (hb.cell (World.block_lt_of_cell? _ _ (hHeld.2.2.2.2.2))).trans (hHeld.2.2.2.2.2)
           refine ⟨_, rfl, ?_⟩
           have n0_ := Aside0.mk (Kd.R_below (by (with_reducible repeat (first | apply Kd.R_alloc | apply Kd.R_drewN | apply Kd.R_drew)); exact HO_10.out) hb)
           have n1_ := Aside0.mk (Kd.R_below (by (with_reducible repeat (first | apply Kd.R_alloc | apply Kd.R_drewN | apply Kd.R_drew)); exact HO_15.out) hb)
           have n2_ := Aside0.mk (below_step (by repeat (first | (with_reducible first | exact HB.out | apply below_alloc | apply pw_below_drewN | apply below_drew1) | exact HB.out)) hb)
           clear HO_10
           clear HO_15
           clear HB
           have HO_10 := n0_
           have HO_15 := n1_
           have HB := n2_
           clear n0_ n1_ n2_
           (try clear hb)
           (try clear hb2)
           (try clear hk)
           (try clear hi)
           refine hK.out _ _ ⟨HS0_, HS1_, HS2_, HS3_, HS4_, HS5_⟩ (fun hHeld => ?_)
           clear hK K
           refine norm_ (a' := ?_) ?_ ?_
           rotate_left
           ·show Act.put _ (some 138) _ = _
            simp only [Act.put, aA, aB, aC, i64_w, i32_w]
            rfl
           refine pure_ (i := 48) (N := some 139) (v := ?_) (a' := ?_) (upto 73 49) rfl rfl (any_of HT_.out (by kernel_rfl)) (fun _ _ _ h => h) (Or.inl ⟨by rfl, ?_⟩) ?_ ?_
           rotate_left
           ·intro w'
            go_simp
            with_reducible rfl
           rotate_left
           ·simp only [Act.put, aA, aB, aC, i64_w, i32_w]
            rfl
           refine pure_ (i := 49) (N := some 140) (v := ?_) (a' := ?_) (upto 73 50) rfl rfl (any_of HT_.out (by kernel_rfl)) (fun _ _ _ h => h) (Or.inl ⟨by rfl, ?_⟩) ?_ ?_
           rotate_left
           ·intro w'
            go_simp
            with_reducible rfl
           rotate_left
           ·simp only [Act.put, aA, aB, aC, i64_w, i32_w]
            rfl
           refine pure_ (i := 50) (N := some 141) (v := ?_) (a' := ?_) (upto 73 51) rfl rfl (any_of HT_.out (by kernel_rfl)) (fun _ _ _ h => h) (Or.inl ⟨by rfl, ?_⟩) ?_ ?_
           rotate_left
           ·intro w'
            go_simp
            with_reducible rfl
           rotate_left
           ·simp only [Act.put, aA, aB, aC, i64_w, i32_w]
            rfl
           refine pure_ (i := 51) (N := some 142) (v := ?_) (a' := ?_) (upto 73 52) rfl rfl (any_of HT_.out (by kernel_rfl)) (fun _ _ _ h => h) (Or.inl ⟨by rfl, ?_⟩) ?_ ?_
           rotate_left
           ·intro w'
            go_simp
            with_reducible rfl
           rotate_left
           ·simp only [Act.put, aA, aB, aC, i64_w, i32_w]
            rfl
           refine pure_ (i := 52) (N := some 143) (v := ?_) (a' := ?_) (upto 73 53) rfl rfl (any_of HT_.out (by kernel_rfl)) (fun _ _ _ h => h) (Or.inl ⟨by rfl, ?_⟩) ?_ ?_
           rotate_left
           ·intro w'
            go_simp
            with_reducible rfl
           rotate_left
           ·simp only [Act.put, aA, aB, aC, i64_w, i32_w]
            rfl
           refine pure_ (i := 53) (N := some 144) (v := ?_) (a' := ?_) (upto 73 54) rfl rfl (any_of HT_.out (by kernel_rfl)) (fun _ _ _ h => h) (Or.inl ⟨by rfl, ?_⟩) ?_ ?_
           rotate_left
           ·intro w'
            go_simp
            with_reducible rfl
           rotate_left
           ·simp only [Act.put, aA, aB, aC, i64_w, i32_w]
            rfl
           refine pure_ (i := 54) (N := some 145) (v := ?_) (a' := ?_) (upto 73 55) rfl rfl (any_of HT_.out (by kernel_rfl)) (fun _ _ _ h => h) (Or.inl ⟨by rfl, ?_⟩) ?_ ?_
           rotate_left
           ·intro w'
            go_simp
            with_reducible rfl
           rotate_left
           ·simp only [Act.put, aA, aB, aC, i64_w, i32_w]
            rfl
           refine pure_ (i := 55) (N := some 146) (v := ?_) (a' := ?_) (upto 73 56) rfl rfl (any_of HT_.out (by kernel_rfl)) (fun _ _ _ h => h) (Or.inl ⟨by rfl, ?_⟩) ?_ ?_
           rotate_left
           ·intro w'
            go_simp
            with_reducible rfl
           rotate_left
           ·simp only [Act.put, aA, aB, aC, i64_w, i32_w]
            rfl
           refine pure_ (i := 56) (N := some 147) (v := ?_) (a' := ?_) (upto 73 57) rfl rfl (any_of HT_.out (by kernel_rfl)) (fun _ _ _ h => h) (Or.inl ⟨by rfl, ?_⟩) ?_ ?_
           rotate_left
           ·intro w'
            go_simp
            with_reducible rfl
           rotate_left
           ·simp only [Act.put, aA, aB, aC, i64_w, i32_w]
            rfl
           refine pure_ (i := 58) (N := some 149) (v := ?_) (a' := ?_) #[T_,T_,T_,T_,T_,T_,T_,T_,T_,T_,T_,T_,T_,T_,T_,T_,T_,T_,T_,T_,T_,T_,T_,T_,T_,T_,T_,T_,T_,T_,T_,T_,T_,T_,T_,T_,T_,T_,T_,T_,T_,T_,T_,T_,T_,T_,T_,T_,T_,T_,T_,T_,T_,T_,T_,T_,T_,F_,T_,F_,F_,F_,F_,F_,F_,F_,F_,F_,F_,F_,F_,F_,F_] rfl rfl (any_of HT_.out (by kernel_rfl)) (fun _ _ _ h => h) (Or.inl ⟨by rfl, ?_⟩) ?_ ?_
           rotate_left
           ·intro w'
            go_simp
            with_reducible rfl
           rotate_left
           ·simp only [Act.put, aA, aB, aC, i64_w, i32_w]
            rfl
           refine take_ (i := 57) (N := some 148) (v := ?_) (a' := ?_) (upto 73 59) rfl rfl (take_ofW HT_.out HW_.out (by kernel_rfl)) (fun _ _ _ h => h) (Or.inl ⟨by rfl, ?_⟩) hHeld ?_ ?_
           rotate_left
           ·rintro w' ⟨s0, s1, s2, s3, s4, s5⟩
            go_simp
            with_reducible rfl
           rotate_left
           ·simp only [Act.put, aA, aB, aC, i64_w, i32_w]
            rfl
           refine one_ (i := 59) (N := some 150) (upto 73 60) rfl rfl (one_of HT_.out (by kernel_rfl)) (by decide) (fun K hK => ?_)
           refine goes_ Try.func23 (by kernel_rfl) rfl #[.string ((⟨#[104]⟩ : ByteArray) ++ t231), .int .i64 (t227.length : Int), .int .i64 t230, .string (rdOf ByteArray.empty t227 t230), .slice Ao56 t233.length co56] (by rfl) rfl rfl (by (try simp only [List.map_toArray, List.map_cons, List.map_nil]); first | done | rfl | (simp only [List.length_drop, List.length_take]; rfl)) ?_
           with_reducible refine (tree_Verify.calls kj14 ((⟨#[104]⟩ : ByteArray) ++ t231) (t227.length : Int) t230 (rdOf ByteArray.empty t227 t230) _ _ t233 false _ ?side1 ?side2 A51.out).mono ?_
           (case side1 => repeat (first | exact (Kd.R_reads' HO_15.out).2.2 | (with_reducible refine Kd.C_alloc ?_ _) | (with_reducible refine Kd.C_drewN ?_ _) | (with_reducible refine Kd.C_drew ?_)))
           (case side2 => exact (Kd.R_reads' HO_15.out).2.1)
           rintro e w60 ⟨rfl, hb⟩
           have HS0_ := (hb.cell (World.block_lt_of_cell? _ _ (hHeld.1))).trans (hHeld.1)
           have HS1_ := (hb.cell (World.block_lt_of_cell? _ _ (hHeld.2.1))).trans (hHeld.2.1)
           have HS2_ := (hb.cell (World.block_lt_of_cell? _ _ (hHeld.2.2.1))).trans (hHeld.2.2.1)
           have HS3_ := (hb.cell (World.block_lt_of_cell? _ _ (hHeld.2.2.2.1))).trans (hHeld.2.2.2.1)
           have HS4_ := (hb.cell (World.block_lt_of_cell? _ _ (hHeld.2.2.2.2.1))).trans (hHeld.2.2.2.2.1)
           have HS5_ := (hb.cell (World.block_lt_of_cell? _ _ (hHeld.2.2.2.2.2))).trans (hHeld.2.2.2.2.2)
           refine ⟨_, rfl, ?_⟩
           have n0_ := Aside0.mk (Kd.R_below (by (with_reducible repeat (first | apply Kd.R_alloc | apply Kd.R_drewN | apply Kd.R_drew)); exact HO_10.out) hb)
           have n1_ := Aside0.mk (Kd.R_below (by (with_reducible repeat (first | apply Kd.R_alloc | apply Kd.R_drewN | apply Kd.R_drew)); exact HO_15.out) hb)
           have n2_ := Aside0.mk (below_step (by repeat (first | (with_reducible first | exact HB.out | apply below_alloc | apply pw_below_drewN | apply below_drew1) | exact HB.out)) hb)
           clear HO_10
           clear HO_15
           clear HB
           have HO_10 := n0_
           have HO_15 := n1_
           have HB := n2_
           clear n0_ n1_ n2_
           (try clear hb)
           (try clear hb2)
           (try clear hk)
           (try clear hi)
           refine hK.out _ _ ⟨HS0_, HS1_, HS2_, HS3_, HS4_, HS5_⟩ (fun hHeld => ?_)
           clear hK K
           refine norm_ (a' := ?_) ?_ ?_
           rotate_left
           ·show Act.put _ (some 150) _ = _
            simp only [Act.put, aA, aB, aC, i64_w, i32_w]
            rfl
           refine pure_ (i := 60) (N := some 151) (v := ?_) (a' := ?_) (upto 73 61) rfl rfl (any_of HT_.out (by kernel_rfl)) (fun _ _ _ h => h) (Or.inl ⟨by rfl, ?_⟩) ?_ ?_
           rotate_left
           ·intro w'
            go_simp
            with_reducible rfl
           rotate_left
           ·simp only [Act.put, aA, aB, aC, i64_w, i32_w]
            rfl
           refine pure_ (i := 61) (N := some 152) (v := ?_) (a' := ?_) (upto 73 62) rfl rfl (any_of HT_.out (by kernel_rfl)) (fun _ _ _ h => h) (Or.inl ⟨by rfl, ?_⟩) ?_ ?_
           rotate_left
           ·intro w'
            go_simp
            with_reducible rfl
           rotate_left
           ·simp only [Act.put, aA, aB, aC, i64_w, i32_w]
            rfl
           refine pure_ (i := 62) (N := some 153) (v := ?_) (a' := ?_) (upto 73 63) rfl rfl (any_of HT_.out (by kernel_rfl)) (fun _ _ _ h => h) (Or.inl ⟨by rfl, ?_⟩) ?_ ?_
           rotate_left
           ·intro w'
            go_simp
            with_reducible rfl
           rotate_left
           ·simp only [Act.put, aA, aB, aC, i64_w, i32_w]
            rfl
           refine pure_ (i := 63) (N := some 154) (v := ?_) (a' := ?_) (upto 73 64) rfl rfl (any_of HT_.out (by kernel_rfl)) (fun _ _ _ h => h) (Or.inl ⟨by rfl, ?_⟩) ?_ ?_
           rotate_left
           ·intro w'
            go_simp
            with_reducible rfl
           rotate_left
           ·simp only [Act.put, aA, aB, aC, i64_w, i32_w]
            rfl
           refine pure_ (i := 64) (N := some 155) (v := ?_) (a' := ?_) (upto 73 65) rfl rfl (any_of HT_.out (by kernel_rfl)) (fun _ _ _ h => h) (Or.inl ⟨by rfl, ?_⟩) ?_ ?_
           rotate_left
           ·intro w'
            go_simp
            with_reducible rfl
           rotate_left
           ·simp only [Act.put, aA, aB, aC, i64_w, i32_w]
            rfl
           refine pure_ (i := 65) (N := some 156) (v := ?_) (a' := ?_) (upto 73 66) rfl rfl (any_of HT_.out (by kernel_rfl)) (fun _ _ _ h => h) (Or.inl ⟨by rfl, ?_⟩) ?_ ?_
           rotate_left
           ·intro w'
            go_simp
            with_reducible rfl
           rotate_left
           ·simp only [Act.put, aA, aB, aC, i64_w, i32_w]
            rfl
           refine pure_ (i := 66) (N := some 157) (v := ?_) (a' := ?_) (upto 73 67) rfl rfl (any_of HT_.out (by kernel_rfl)) (fun _ _ _ h => h) (Or.inl ⟨by rfl, ?_⟩) ?_ ?_
           rotate_left
           ·intro w'
            go_simp
            with_reducible rfl
           rotate_left
           ·simp only [Act.put, aA, aB, aC, i64_w, i32_w]
            rfl
           refine pure_ (i := 67) (N := some 158) (v := ?_) (a' := ?_) (upto 73 68) rfl rfl (any_of HT_.out (by kernel_rfl)) (fun _ _ _ h => h) (Or.inl ⟨by rfl, ?_⟩) ?_ ?_
           rotate_left
           ·intro w'
            go_simp
            with_reducible rfl
           rotate_left
           ·simp only [Act.put, aA, aB, aC, i64_w, i32_w]
            rfl
           refine pure_ (i := 70) (N := some 161) (v := ?_) (a' := ?_) #[T_,T_,T_,T_,T_,T_,T_,T_,T_,T_,T_,T_,T_,T_,T_,T_,T_,T_,T_,T_,T_,T_,T_,T_,T_,T_,T_,T_,T_,T_,T_,T_,T_,T_,T_,T_,T_,T_,T_,T_,T_,T_,T_,T_,T_,T_,T_,T_,T_,T_,T_,T_,T_,T_,T_,T_,T_,T_,T_,T_,T_,T_,T_,T_,T_,T_,T_,T_,F_,F_,T_,F_,F_] rfl rfl (any_of HT_.out (by kernel_rfl)) (fun _ _ _ h => h) (Or.inl ⟨by rfl, ?_⟩) ?_ ?_
           rotate_left
           ·intro w'
            go_simp
            with_reducible rfl
           rotate_left
           ·simp only [Act.put, aA, aB, aC, i64_w, i32_w]
            rfl
           refine take_ (i := 68) (N := some 159) (v := ?_) (a' := ?_) #[T_,T_,T_,T_,T_,T_,T_,T_,T_,T_,T_,T_,T_,T_,T_,T_,T_,T_,T_,T_,T_,T_,T_,T_,T_,T_,T_,T_,T_,T_,T_,T_,T_,T_,T_,T_,T_,T_,T_,T_,T_,T_,T_,T_,T_,T_,T_,T_,T_,T_,T_,T_,T_,T_,T_,T_,T_,T_,T_,T_,T_,T_,T_,T_,T_,T_,T_,T_,T_,F_,T_,F_,F_] rfl rfl (take_ofW HT_.out HW_.out (by kernel_rfl)) (fun _ _ _ h => h) (Or.inl ⟨by rfl, ?_⟩) hHeld ?_ ?_
           rotate_left
           ·rintro w' ⟨s0, s1, s2, s3, s4, s5⟩
            go_simp
            with_reducible rfl
           rotate_left
           ·simp only [Act.put, aA, aB, aC, i64_w, i32_w]
            rfl
           refine pure_ (i := 69) (N := some 160) (v := ?_) (a' := ?_) (upto 73 71) rfl rfl (any_of HT_.out (by kernel_rfl)) (fun _ _ _ h => h) (Or.inl ⟨by rfl, ?_⟩) ?_ ?_
           rotate_left
           ·intro w'
            go_simp
            with_reducible rfl
           rotate_left
           ·simp only [Act.put, aA, aB, aC, i64_w, i32_w]
            rfl
           refine one_ (i := 71) (N := some 162) (upto 73 72) rfl rfl (one_of HT_.out (by kernel_rfl)) (by decide) (fun K hK => ?_)
           refine goes_ Try.func23 (by kernel_rfl) rfl #[.string t231, .int .i64 (t227.length : Int), .int .i64 t230, .string ((⟨#[104]⟩ : ByteArray) ++ (rdOf ByteArray.empty t227 t230)), .slice Ao56 t233.length co56] (by rfl) rfl rfl (by (try simp only [List.map_toArray, List.map_cons, List.map_nil]); first | done | rfl | (simp only [List.length_drop, List.length_take]; rfl)) ?_
           with_reducible refine (tree_Verify.calls kj14 t231 (t227.length : Int) t230 ((⟨#[104]⟩ : ByteArray) ++ (rdOf ByteArray.empty t227 t230)) _ _ t233 t253 _ ?side1 ?side2 A54.out).mono ?_
           (case side1 => repeat (first | exact (Kd.R_reads' HO_15.out).2.2 | (with_reducible refine Kd.C_alloc ?_ _) | (with_reducible refine Kd.C_drewN ?_ _) | (with_reducible refine Kd.C_drew ?_)))
           (case side2 => exact (Kd.R_reads' HO_15.out).2.1)
           rintro e w61 ⟨rfl, hb⟩
           have HS0_ := (hb.cell (World.block_lt_of_cell? _ _ (hHeld.1))).trans (hHeld.1)
           have HS1_ := (hb.cell (World.block_lt_of_cell? _ _ (hHeld.2.1))).trans (hHeld.2.1)
           have HS2_ := (hb.cell (World.block_lt_of_cell? _ _ (hHeld.2.2.1))).trans (hHeld.2.2.1)
           have HS3_ := (hb.cell (World.block_lt_of_cell? _ _ (hHeld.2.2.2.1))).trans (hHeld.2.2.2.1)
           have HS4_ := (hb.cell (World.block_lt_of_cell? _ _ (hHeld.2.2.2.2.1))).trans (hHeld.2.2.2.2.1)
           have HS5_ := (hb.cell (World.block_lt_of_cell? _ _ (hHeld.2.2.2.2.2))).trans (hHeld.2.2.2.2.2)
           refine ⟨_, rfl, ?_⟩
           have n0_ := Aside0.mk (Kd.R_below (by (with_reducible repeat (first | apply Kd.R_alloc | apply Kd.R_drewN | apply Kd.R_drew)); exact HO_10.out) hb)
           have n1_ := Aside0.mk (Kd.R_below (by (with_reducible repeat (first | apply Kd.R_alloc | apply Kd.R_drewN | apply Kd.R_drew)); exact HO_15.out) hb)
           have n2_ := Aside0.mk (below_step (by repeat (first | (with_reducible first | exact HB.out | apply below_alloc | apply pw_below_drewN | apply below_drew1) | exact HB.out)) hb)
           clear HO_10
           clear HO_15
           clear HB
           have HO_10 := n0_
           have HO_15 := n1_
           have HB := n2_
           clear n0_ n1_ n2_
           (try clear hb)
           (try clear hb2)
           (try clear hk)
           (try clear hi)
           refine hK.out _ _ ⟨HS0_, HS1_, HS2_, HS3_, HS4_, HS5_⟩ (fun hHeld => ?_)
           clear hK K
           refine norm_ (a' := ?_) ?_ ?_
           rotate_left
           ·show Act.put _ (some 162) _ = _
            simp only [Act.put, aA, aB, aC, i64_w, i32_w]
            rfl
           refine pure_ (i := 72) (N := some 163) (v := ?_) (a' := ?_) (upto 73 73) rfl rfl (any_of HT_.out (by kernel_rfl)) (fun _ _ _ h => h) (Or.inl ⟨by rfl, ?_⟩) ?_ ?_
           rotate_left
           ·intro w'
            go_simp
            with_reducible rfl
           rotate_left
           ·simp only [Act.put, aA, aB, aC, i64_w, i32_w]
            rfl
           refine done_ (done_of HT_.out (by kernel_rfl)) ?_
           try go_wp2
           go_meet
           case rel => exact ⟨_, (t253), (by first | rfl | (simp; done) | (simp [*]; done) | (simp; exact isEmpty_ne _)), H', ⟨by have := HJ14.out; first | omega | exact Nat.le_refl _⟩, ⟨by (with_reducible repeat (first | apply Kd.R_alloc | apply Kd.R_drewN | apply Kd.R_drew)); exact HO_10.out⟩, ⟨by (with_reducible repeat (first | apply Kd.R_alloc | apply Kd.R_drewN | apply Kd.R_drew)); exact HO_15.out⟩, ⟨by repeat (first | (with_reducible first | exact HB.out | apply below_alloc | apply pw_below_drewN | apply below_drew1) | exact HB.out)⟩⟩
       ·rw [if_neg c45] at H
        have c45b0 : ((rdOf ByteArray.empty t227 t242).toList == (rdOf ByteArray.empty t227 t230).toList) = false := beq_eq_false_iff_ne.mpr c45
        have c45b1 : ((rdOf ByteArray.empty t227 t242).toList != (rdOf ByteArray.empty t227 t230).toList) = true := bne_iff_ne.mpr c45
        replace H := Option.bind_eq_some_iff.mp H
        obtain ⟨t255, A620, H⟩ := H
        replace H : (if t255 = true then (none) else ((tree_Verify.f kj14 t231 (t227.length : Int) (t227.length : Int) (rdOf ByteArray.empty t227 t230) t233).bind fun t257 => (if t257 = true then (none) else ((tree_Verify.f kj14 t231 (t227.length : Int) (-1) (rdOf ByteArray.empty t227 t230) t233).bind fun t259 => (if t259 = true then (none) else (if 1 + t231.size ≤ 9223372036854775807 then ((tree_Verify.f kj14 ((⟨#[104]⟩ : ByteArray) ++ t231) (t227.length : Int) t230 (rdOf ByteArray.empty t227 t230) t233).bind fun t261 => (if t261 = true then (none) else (if 1 + (rdOf ByteArray.empty t227 t230).size ≤ 9223372036854775807 then ((tree_Verify.f kj14 t231 (t227.length : Int) t230 ((⟨#[104]⟩ : ByteArray) ++ (rdOf ByteArray.empty t227 t230)) t233).bind fun t263 => (letterlocklaw10_TreeProves.j1 kj14 a3 t227 (t227.length : Int) t231 t233 t263)) else (none)))) else (none))))))) = some r := H
        have A62 := Aside0.mk A620
        clear A620
        by_cases c63 : t255 = true
        ·subst c63
         have H1 : (none) = some r := by rw [if_pos rfl] at H; exact H
         clear H
         have H := H1
         clear H1
         exact absurd H (by simp)
        ·replace c63 := Bool.eq_false_iff.mpr c63
         subst c63
         have H1 : ((tree_Verify.f kj14 t231 (t227.length : Int) (t227.length : Int) (rdOf ByteArray.empty t227 t230) t233).bind fun t257 => (if t257 = true then (none) else ((tree_Verify.f kj14 t231 (t227.length : Int) (-1) (rdOf ByteArray.empty t227 t230) t233).bind fun t259 => (if t259 = true then (none) else (if 1 + t231.size ≤ 9223372036854775807 then ((tree_Verify.f kj14 ((⟨#[104]⟩ : ByteArray) ++ t231) (t227.length : Int) t230 (rdOf ByteArray.empty t227 t230) t233).bind fun t261 => (if t261 = true then (none) else (if 1 + (rdOf ByteArray.empty t227 t230).size ≤ 9223372036854775807 then ((tree_Verify.f kj14 t231 (t227.length : Int) t230 ((⟨#[104]⟩ : ByteArray) ++ (rdOf ByteArray.empty t227 t230)) t233).bind fun t263 => (letterlocklaw10_TreeProves.j1 kj14 a3 t227 (t227.length : Int) t231 t233 t263)) else (none)))) else (none)))))) = some r := by rw [if_neg (show ¬ (false = true) by decide)] at H; exact H
         clear H
         have H := H1
         clear H1
         replace H := Option.bind_eq_some_iff.mp H
         obtain ⟨t257, A640, H⟩ := H
         replace H : (if t257 = true then (none) else ((tree_Verify.f kj14 t231 (t227.length : Int) (-1) (rdOf ByteArray.empty t227 t230) t233).bind fun t259 => (if t259 = true then (none) else (if 1 + t231.size ≤ 9223372036854775807 then ((tree_Verify.f kj14 ((⟨#[104]⟩ : ByteArray) ++ t231) (t227.length : Int) t230 (rdOf ByteArray.empty t227 t230) t233).bind fun t261 => (if t261 = true then (none) else (if 1 + (rdOf ByteArray.empty t227 t230).size ≤ 9223372036854775807 then ((tree_Verify.f kj14 t231 (t227.length : Int) t230 ((⟨#[104]⟩ : ByteArray) ++ (rdOf ByteArray.empty t227 t230)) t233).bind fun t263 => (letterlocklaw10_TreeProves.j1 kj14 a3 t227 (t227.length : Int) t231 t233 t263)) else (none)))) else (none))))) = some r := H
         have A64 := Aside0.mk A640
         clear A640
         by_cases c65 : t257 = true
         ·subst c65
          have H1 : (none) = some r := by rw [if_pos rfl] at H; exact H
          clear H
          have H := H1
          clear H1
          exact absurd H (by simp)
         ·replace c65 := Bool.eq_false_iff.mpr c65
          subst c65
          have H1 : ((tree_Verify.f kj14 t231 (t227.length : Int) (-1) (rdOf ByteArray.empty t227 t230) t233).bind fun t259 => (if t259 = true then (none) else (if 1 + t231.size ≤ 9223372036854775807 then ((tree_Verify.f kj14 ((⟨#[104]⟩ : ByteArray) ++ t231) (t227.length : Int) t230 (rdOf ByteArray.empty t227 t230) t233).bind fun t261 => (if t261 = true then (none) else (if 1 + (rdOf ByteArray.empty t227 t230).size ≤ 9223372036854775807 then ((tree_Verify.f kj14 t231 (t227.length : Int) t230 ((⟨#[104]⟩ : ByteArray) ++ (rdOf ByteArray.empty t227 t230)) t233).bind fun t263 => (letterlocklaw10_TreeProves.j1 kj14 a3 t227 (t227.length : Int) t231 t233 t263)) else (none)))) else (none)))) = some r := by rw [if_neg (show ¬ (false = true) by decide)] at H; exact H
          clear H
          have H := H1
          clear H1
          replace H := Option.bind_eq_some_iff.mp H
          obtain ⟨t259, A660, H⟩ := H
          replace H : (if t259 = true then (none) else (if 1 + t231.size ≤ 9223372036854775807 then ((tree_Verify.f kj14 ((⟨#[104]⟩ : ByteArray) ++ t231) (t227.length : Int) t230 (rdOf ByteArray.empty t227 t230) t233).bind fun t261 => (if t261 = true then (none) else (if 1 + (rdOf ByteArray.empty t227 t230).size ≤ 9223372036854775807 then ((tree_Verify.f kj14 t231 (t227.length : Int) t230 ((⟨#[104]⟩ : ByteArray) ++ (rdOf ByteArray.empty t227 t230)) t233).bind fun t263 => (letterlocklaw10_TreeProves.j1 kj14 a3 t227 (t227.length : Int) t231 t233 t263)) else (none)))) else (none))) = some r := H
          have A66 := Aside0.mk A660
          clear A660
          by_cases c67 : t259 = true
          ·subst c67
           have H1 : (none) = some r := by rw [if_pos rfl] at H; exact H
           clear H
           have H := H1
           clear H1
           exact absurd H (by simp)
          ·replace c67 := Bool.eq_false_iff.mpr c67
           subst c67
           have H1 : (if 1 + t231.size ≤ 9223372036854775807 then ((tree_Verify.f kj14 ((⟨#[104]⟩ : ByteArray) ++ t231) (t227.length : Int) t230 (rdOf ByteArray.empty t227 t230) t233).bind fun t261 => (if t261 = true then (none) else (if 1 + (rdOf ByteArray.empty t227 t230).size ≤ 9223372036854775807 then ((tree_Verify.f kj14 t231 (t227.length : Int) t230 ((⟨#[104]⟩ : ByteArray) ++ (rdOf ByteArray.empty t227 t230)) t233).bind fun t263 => (letterlocklaw10_TreeProves.j1 kj14 a3 t227 (t227.length : Int) t231 t233 t263)) else (none)))) else (none)) = some r := by rw [if_neg (show ¬ (false = true) by decide)] at H; exact H
           clear H
           have H := H1
           clear H1
           by_cases c68 : 1 + t231.size ≤ 9223372036854775807
           rotate_left
           ·rw [if_neg c68] at H
            exact absurd H (by simp)
           rw [if_pos c68] at H
           have c68b0 := eq_true c68
           have c68b1 : decide (1 + t231.size ≤ 9223372036854775807) = true := decide_eq_true c68
           try have c68b2 : (9223372036854775807 < 1 + t231.size) = False := eq_false (Nat.not_lt.2 c68)
           replace H := Option.bind_eq_some_iff.mp H
           obtain ⟨t261, A690, H⟩ := H
           replace H : (if t261 = true then (none) else (if 1 + (rdOf ByteArray.empty t227 t230).size ≤ 9223372036854775807 then ((tree_Verify.f kj14 t231 (t227.length : Int) t230 ((⟨#[104]⟩ : ByteArray) ++ (rdOf ByteArray.empty t227 t230)) t233).bind fun t263 => (letterlocklaw10_TreeProves.j1 kj14 a3 t227 (t227.length : Int) t231 t233 t263)) else (none))) = some r := H
           have A69 := Aside0.mk A690
           clear A690
           by_cases c70 : t261 = true
           ·subst c70
            have H1 : (none) = some r := by rw [if_pos rfl] at H; exact H
            clear H
            have H := H1
            clear H1
            exact absurd H (by simp)
           ·replace c70 := Bool.eq_false_iff.mpr c70
            subst c70
            have H1 : (if 1 + (rdOf ByteArray.empty t227 t230).size ≤ 9223372036854775807 then ((tree_Verify.f kj14 t231 (t227.length : Int) t230 ((⟨#[104]⟩ : ByteArray) ++ (rdOf ByteArray.empty t227 t230)) t233).bind fun t263 => (letterlocklaw10_TreeProves.j1 kj14 a3 t227 (t227.length : Int) t231 t233 t263)) else (none)) = some r := by rw [if_neg (show ¬ (false = true) by decide)] at H; exact H
            clear H
            have H := H1
            clear H1
            by_cases c71 : 1 + (rdOf ByteArray.empty t227 t230).size ≤ 9223372036854775807
            rotate_left
            ·rw [if_neg c71] at H
             exact absurd H (by simp)
            rw [if_pos c71] at H
            have c71b0 := eq_true c71
            have c71b1 : decide (1 + (rdOf ByteArray.empty t227 t230).size ≤ 9223372036854775807) = true := decide_eq_true c71
            try have c71b2 : (9223372036854775807 < 1 + (rdOf ByteArray.empty t227 t230).size) = False := eq_false (Nat.not_lt.2 c71)
            (try (have c71b0n := c71b0; simp only [ByteArray.size_append, ByteArray.size_extract, Nat.min_self, size_lit1, Int.natCast_add, Int.natCast_one] at c71b0n))
            (try (have c71b1n := c71b1; simp only [ByteArray.size_append, ByteArray.size_extract, Nat.min_self, size_lit1, Int.natCast_add, Int.natCast_one] at c71b1n))
            (try (have c71b2n := c71b2; simp only [ByteArray.size_append, ByteArray.size_extract, Nat.min_self, size_lit1, Int.natCast_add, Int.natCast_one] at c71b2n))
            replace H := Option.bind_eq_some_iff.mp H
            obtain ⟨t263, A720, H⟩ := H
            replace H : (letterlocklaw10_TreeProves.j1 kj14 a3 t227 (t227.length : Int) t231 t233 t263) = some r := H
            have A72 := Aside0.mk A720
            clear A720
            have H' := Aside0.mk H
            clear H
            try go_wp2
            have m0_ := Aside0.mk (Kd.R_drewN HO_10.out nd)
            have m1_ := Aside0.mk (Kd.R_drewN HO_15.out nd)
            have m2_ := Aside0.mk (pw_below_drewN HB.out nd)
            clear HO_10 HO_15 HB
            have HO_10 := m0_
            have HO_15 := m1_
            have HB := m2_
            clear m0_ m1_ m2_
            generalize w38.drewN nd = w38 at HO_10 HO_15 HB ⊢
            have n0_ := Aside0.mk (Kd.R_drew HO_10.out)
            have n1_ := Aside0.mk (Kd.R_drew HO_15.out)
            have n2_ := Aside0.mk (below_drew1 HB.out)
            clear HO_10
            clear HO_15
            clear HB
            have HO_10 := n0_
            have HO_15 := n1_
            have HB := n2_
            clear n0_ n1_ n2_
            obtain ⟨Ao74, co74, eo74⟩ := Kd.R_slice HO_15.out
            (first | subst eo74 | (injection eo74 with f1_ f2_ f3_; have f4_ := f1_.symm; have f5_ := f3_.symm; clear f1_ f2_ f3_; subst f4_; subst f5_))
            have p244 : 0 ≤ (t242 : Int) := of_decide_eq_true (by first | (with_reducible assumption) | assumption)
            have q244 : t242 < (t227.length : Int) := of_decide_eq_true (by first | (with_reducible assumption) | assumption)
            obtain ⟨ad244, e244, hx244_0⟩ := Kd.at_string (Kd.R_reads' HO_10.out).2.2 t242 p244 q244
            cases e244
            replace p244 := eq_true p244
            replace q244 := eq_true q244
            have p245 : 0 ≤ (t230 : Int) := of_decide_eq_true (by first | (with_reducible assumption) | assumption)
            have q245 : t230 < (t227.length : Int) := of_decide_eq_true (by first | (with_reducible assumption) | assumption)
            obtain ⟨ad245, e245, hx245_0⟩ := Kd.at_string (Kd.R_reads' HO_10.out).2.2 t230 p245 q245
            obtain rfl : ad244 = ad245 := (by injection e245)
            replace p245 := eq_true p245
            replace q245 := eq_true q245
            have p254 : 0 ≤ (t242 : Int) := of_decide_eq_true (by first | (with_reducible assumption) | assumption)
            have q254 : t242 < (t227.length : Int) := of_decide_eq_true (by first | (with_reducible assumption) | assumption)
            obtain ⟨ad254, e254, hx254_0⟩ := Kd.at_string (Kd.R_reads' HO_10.out).2.2 t242 p254 q254
            obtain rfl : ad244 = ad254 := (by injection e254)
            replace p254 := eq_true p254
            replace q254 := eq_true q254
            have p256 : 0 ≤ (t230 : Int) := of_decide_eq_true (by first | (with_reducible assumption) | assumption)
            have q256 : t230 < (t227.length : Int) := of_decide_eq_true (by first | (with_reducible assumption) | assumption)
            obtain ⟨ad256, e256, hx256_0⟩ := Kd.at_string (Kd.R_reads' HO_10.out).2.2 t230 p256 q256
            obtain rfl : ad244 = ad256 := (by injection e256)
            replace p256 := eq_true p256
            replace q256 := eq_true q256
            have p258 : 0 ≤ (t230 : Int) := of_decide_eq_true (by first | (with_reducible assumption) | assumption)
            have q258 : t230 < (t227.length : Int) := of_decide_eq_true (by first | (with_reducible assumption) | assumption)
            obtain ⟨ad258, e258, hx258_0⟩ := Kd.at_string (Kd.R_reads' HO_10.out).2.2 t230 p258 q258
            obtain rfl : ad244 = ad258 := (by injection e258)
            replace p258 := eq_true p258
            replace q258 := eq_true q258
            have p260 : 0 ≤ (t230 : Int) := of_decide_eq_true (by first | (with_reducible assumption) | assumption)
            have q260 : t230 < (t227.length : Int) := of_decide_eq_true (by first | (with_reducible assumption) | assumption)
            obtain ⟨ad260, e260, hx260_0⟩ := Kd.at_string (Kd.R_reads' HO_10.out).2.2 t230 p260 q260
            obtain rfl : ad244 = ad260 := (by injection e260)
            replace p260 := eq_true p260
            replace q260 := eq_true q260
            have p262 : 0 ≤ (t230 : Int) := of_decide_eq_true (by first | (with_reducible assumption) | assumption)
            have q262 : t230 < (t227.length : Int) := of_decide_eq_true (by first | (with_reducible assumption) | assumption)
            obtain ⟨ad262, e262, hx262_0⟩ := Kd.at_string (Kd.R_reads' HO_10.out).2.2 t230 p262 q262
            obtain rfl : ad244 = ad262 := (by injection e262)
            replace p262 := eq_true p262
            replace q262 := eq_true q262
            refine start_ (n := 73) (S := fun w' => w'.cell? (ad244.add (t242).toNat) = some (.string (rdOf ByteArray.empty t227 t242)) ∧ w'.cell? (ad244.add (t230).toNat) = some (.string (rdOf ByteArray.empty t227 t230)) ∧ w'.cell? (ad244.add (t242).toNat) = some (.string (rdOf ByteArray.empty t227 t242)) ∧ w'.cell? (ad244.add (t230).toNat) = some (.string (rdOf ByteArray.empty t227 t230)) ∧ w'.cell? (ad244.add (t230).toNat) = some (.string (rdOf ByteArray.empty t227 t230)) ∧ w'.cell? (ad244.add (t230).toNat) = some (.string (rdOf ByteArray.empty t227 t230)) ∧ w'.cell? (ad244.add (t230).toNat) = some (.string (rdOf ByteArray.empty t227 t230))) (ds := []) (upto 73 0) (by kernel_rfl) rfl rfl ⟨hx244_0, hx245_0, hx254_0, hx256_0, hx258_0, hx260_0, hx262_0⟩ (fun hHeld => ?_); refine with_tabW letterlocklaw10_TreeProves.tab13 letterlocklaw10_TreeProves.bits13 (fun HT_ HW_ => ?_)
            generalize w38.drew = w73 at HO_10 HO_15 HB hx244_0 hx245_0 hx254_0 hx256_0 hx258_0 hx260_0 hx262_0 hHeld ⊢
            refine pure_ (i := 0) (N := some 91) (v := ?_) (a' := ?_) (upto 73 1) rfl rfl (any_of HT_.out (by kernel_rfl)) (fun _ _ _ h => h) (Or.inl ⟨by rfl, ?_⟩) ?_ ?_
            rotate_left
            ·intro w'
             go_simp
             with_reducible rfl
            rotate_left
            ·simp only [Act.put, aA, aB, aC, i64_w, i32_w]
             rfl
            refine pure_ (i := 1) (N := some 92) (v := ?_) (a' := ?_) (upto 73 2) rfl rfl (any_of HT_.out (by kernel_rfl)) (fun _ _ _ h => h) (Or.inl ⟨by rfl, ?_⟩) ?_ ?_
            rotate_left
            ·intro w'
             go_simp
             with_reducible rfl
            rotate_left
            ·simp only [Act.put, aA, aB, aC, i64_w, i32_w]
             rfl
            refine pure_ (i := 2) (N := some 93) (v := ?_) (a' := ?_) (upto 73 3) rfl rfl (any_of HT_.out (by kernel_rfl)) (fun _ _ _ h => h) (Or.inl ⟨by rfl, ?_⟩) ?_ ?_
            rotate_left
            ·intro w'
             go_simp
             with_reducible rfl
            rotate_left
            ·simp only [Act.put, aA, aB, aC, i64_w, i32_w]
             rfl
            refine pure_ (i := 3) (N := some 94) (v := ?_) (a' := ?_) (upto 73 4) rfl rfl (any_of HT_.out (by kernel_rfl)) (fun _ _ _ h => h) (Or.inl ⟨by rfl, ?_⟩) ?_ ?_
            rotate_left
            ·intro w'
             go_simp
             with_reducible rfl
            rotate_left
            ·simp only [Act.put, aA, aB, aC, i64_w, i32_w]
             rfl
            refine pure_ (i := 4) (N := some 95) (v := ?_) (a' := ?_) (upto 73 5) rfl rfl (any_of HT_.out (by kernel_rfl)) (fun _ _ _ h => h) (Or.inl ⟨by rfl, ?_⟩) ?_ ?_
            rotate_left
            ·intro w'
             go_simp
             with_reducible rfl
            rotate_left
            ·simp only [Act.put, aA, aB, aC, i64_w, i32_w]
             rfl
            refine one_ (i := 5) (N := some 96) (upto 73 6) rfl rfl (one_of HT_.out (by kernel_rfl)) (by decide) (fun K hK => ?_)
            refine goes_ Try.func23 (by kernel_rfl) rfl #[.string t231, .int .i64 (t227.length : Int), .int .i64 t230, .string t240, .slice Ao74 t233.length co74] (by rfl) rfl rfl (by (try simp only [List.map_toArray, List.map_cons, List.map_nil]); first | done | rfl | (simp only [List.length_drop, List.length_take]; rfl)) ?_
            with_reducible refine (tree_Verify.calls kj14 t231 (t227.length : Int) t230 t240 _ _ t233 false _ ?side1 ?side2 A39.out).mono ?_
            (case side1 => repeat (first | exact (Kd.R_reads' HO_15.out).2.2 | (with_reducible refine Kd.C_alloc ?_ _) | (with_reducible refine Kd.C_drewN ?_ _) | (with_reducible refine Kd.C_drew ?_)))
            (case side2 => exact (Kd.R_reads' HO_15.out).2.1)
            rintro e w75 ⟨rfl, hb⟩
            have HS0_ := (hb.cell (World.block_lt_of_cell? _ _ (hHeld.1))).trans (hHeld.1)
            have HS1_ := (hb.cell (World.block_lt_of_cell? _ _ (hHeld.2.1))).trans (hHeld.2.1)
            have HS2_ := (hb.cell (World.block_lt_of_cell? _ _ (hHeld.2.2.1))).trans (hHeld.2.2.1)
            have HS3_ := (hb.cell (World.block_lt_of_cell? _ _ (hHeld.2.2.2.1))).trans (hHeld.2.2.2.1)
            have HS4_ := (hb.cell (World.block_lt_of_cell? _ _ (hHeld.2.2.2.2.1))).trans (hHeld.2.2.2.2.1)
            have HS5_ := (hb.cell (World.block_lt_of_cell? _ _ (hHeld.2.2.2.2.2.1))).trans (hHeld.2.2.2.2.2.1)
            have HS6_ := (hb.cell (World.block_lt_of_cell? _ _ (hHeld.2.2.2.2.2.2))).trans (hHeld.2.2.2.2.2.2)
            refine ⟨_, rfl, ?_⟩
            have n0_ := Aside0.mk (Kd.R_below (by (with_reducible repeat (first | apply Kd.R_alloc | apply Kd.R_drewN | apply Kd.R_drew)); exact HO_10.out) hb)
            have n1_ := Aside0.mk (Kd.R_below (by (with_reducible repeat (first | apply Kd.R_alloc | apply Kd.R_drewN | apply Kd.R_drew)); exact HO_15.out) hb)
            have n2_ := Aside0.mk (below_step (by repeat (first | (with_reducible first | exact HB.out | apply below_alloc | apply pw_below_drewN | apply below_drew1) | exact HB.out)) hb)
            clear HO_10
            clear HO_15
            clear HB
            have HO_10 := n0_
            have HO_15 := n1_
            have HB := n2_
            clear n0_ n1_ n2_
            (try clear hb)
            (try clear hb2)
            (try clear hk)
            (try clear hi)
            refine hK.out _ _ ⟨HS0_, HS1_, HS2_, HS3_, HS4_, HS5_, HS6_⟩ (fun hHeld => ?_)
            clear hK K
            refine norm_ (a' := ?_) ?_ ?_
            rotate_left
            ·show Act.put _ (some 96) _ = _
             simp only [Act.put, aA, aB, aC, i64_w, i32_w]
             rfl
            refine pure_ (i := 6) (N := some 97) (v := ?_) (a' := ?_) (upto 73 7) rfl rfl (any_of HT_.out (by kernel_rfl)) (fun _ _ _ h => h) (Or.inl ⟨by rfl, ?_⟩) ?_ ?_
            rotate_left
            ·intro w'
             go_simp
             with_reducible rfl
            rotate_left
            ·simp only [Act.put, aA, aB, aC, i64_w, i32_w]
             rfl
            refine pure_ (i := 7) (N := some 98) (v := ?_) (a' := ?_) (upto 73 8) rfl rfl (any_of HT_.out (by kernel_rfl)) (fun _ _ _ h => h) (Or.inl ⟨by rfl, ?_⟩) ?_ ?_
            rotate_left
            ·intro w'
             go_simp
             with_reducible rfl
            rotate_left
            ·simp only [Act.put, aA, aB, aC, i64_w, i32_w]
             rfl
            refine pure_ (i := 8) (N := some 99) (v := ?_) (a' := ?_) (upto 73 9) rfl rfl (any_of HT_.out (by kernel_rfl)) (fun _ _ _ h => h) (Or.inl ⟨by rfl, ?_⟩) ?_ ?_
            rotate_left
            ·intro w'
             go_simp
             with_reducible rfl
            rotate_left
            ·simp only [Act.put, aA, aB, aC, i64_w, i32_w]
             rfl
            refine pure_ (i := 9) (N := some 100) (v := ?_) (a' := ?_) (upto 73 10) rfl rfl (any_of HT_.out (by kernel_rfl)) (fun _ _ _ h => h) (Or.inl ⟨by rfl, ?_⟩) ?_ ?_
            rotate_left
            ·intro w'
             go_simp
             with_reducible rfl
            rotate_left
            ·simp only [Act.put, aA, aB, aC, i64_w, i32_w]
             rfl
            refine pure_ (i := 11) (N := some 102) (v := ?_) (a' := ?_) #[T_,T_,T_,T_,T_,T_,T_,T_,T_,T_,F_,T_,F_,F_,F_,F_,F_,F_,F_,F_,F_,F_,F_,F_,F_,F_,F_,F_,F_,F_,F_,F_,F_,F_,F_,F_,F_,F_,F_,F_,F_,F_,F_,F_,F_,F_,F_,F_,F_,F_,F_,F_,F_,F_,F_,F_,F_,F_,F_,F_,F_,F_,F_,F_,F_,F_,F_,F_,F_,F_,F_,F_,F_] rfl rfl (any_of HT_.out (by kernel_rfl)) (fun _ _ _ h => h) (Or.inl ⟨by rfl, ?_⟩) ?_ ?_
            rotate_left
            ·intro w'
             go_simp
             with_reducible rfl
            rotate_left
            ·simp only [Act.put, aA, aB, aC, i64_w, i32_w]
             rfl
            refine pure_ (i := 12) (N := some 103) (v := ?_) (a' := ?_) #[T_,T_,T_,T_,T_,T_,T_,T_,T_,T_,F_,T_,T_,F_,F_,F_,F_,F_,F_,F_,F_,F_,F_,F_,F_,F_,F_,F_,F_,F_,F_,F_,F_,F_,F_,F_,F_,F_,F_,F_,F_,F_,F_,F_,F_,F_,F_,F_,F_,F_,F_,F_,F_,F_,F_,F_,F_,F_,F_,F_,F_,F_,F_,F_,F_,F_,F_,F_,F_,F_,F_,F_,F_] rfl rfl (any_of HT_.out (by kernel_rfl)) (fun _ _ _ h => h) (Or.inl ⟨by rfl, ?_⟩) ?_ ?_
            rotate_left
            ·intro w'
             go_simp
             with_reducible rfl
            rotate_left
            ·simp only [Act.put, aA, aB, aC, i64_w, i32_w]
             rfl
            refine pure_ (i := 13) (N := some 104) (v := ?_) (a' := ?_) #[T_,T_,T_,T_,T_,T_,T_,T_,T_,T_,F_,T_,T_,T_,F_,F_,F_,F_,F_,F_,F_,F_,F_,F_,F_,F_,F_,F_,F_,F_,F_,F_,F_,F_,F_,F_,F_,F_,F_,F_,F_,F_,F_,F_,F_,F_,F_,F_,F_,F_,F_,F_,F_,F_,F_,F_,F_,F_,F_,F_,F_,F_,F_,F_,F_,F_,F_,F_,F_,F_,F_,F_,F_] rfl rfl (any_of HT_.out (by kernel_rfl)) (fun _ _ _ h => h) (Or.inl ⟨by rfl, ?_⟩) ?_ ?_
            rotate_left
            ·intro w'
             go_simp
             with_reducible rfl
            rotate_left
            ·simp only [Act.put, aA, aB, aC, i64_w, i32_w]
             rfl
            refine take_ (i := 10) (N := some 101) (v := ?_) (a' := ?_) (upto 73 14) rfl rfl (take_ofW HT_.out HW_.out (by kernel_rfl)) (fun _ _ _ h => h) (Or.inl ⟨by rfl, ?_⟩) hHeld ?_ ?_
            rotate_left
            ·rintro w' ⟨s0, s1, s2, s3, s4, s5, s6⟩
             go_simp
             with_reducible rfl
            rotate_left
            ·simp only [Act.put, aA, aB, aC, i64_w, i32_w]
             rfl
            refine take_ (i := 14) (N := some 105) (v := ?_) (a' := ?_) (upto 73 15) rfl rfl (take_ofW HT_.out HW_.out (by kernel_rfl)) (fun _ _ _ h => h) (Or.inl ⟨by rfl, ?_⟩) hHeld ?_ ?_
            rotate_left
            ·rintro w' ⟨s0, s1, s2, s3, s4, s5, s6⟩
             go_simp
             with_reducible rfl
            rotate_left
            ·simp only [Act.put, aA, aB, aC, i64_w, i32_w]
             rfl
            refine pure_ (i := 15) (N := some 106) (v := ?_) (a' := ?_) (upto 73 16) rfl rfl (any_of HT_.out (by kernel_rfl)) (fun _ _ _ h => h) (Or.inl ⟨by rfl, ?_⟩) ?_ ?_
            rotate_left
            ·intro w'
             go_simp
             with_reducible rfl
            rotate_left
            ·simp only [Act.put, aA, aB, aC, i64_w, i32_w]
             rfl
            refine pure_ (i := 16) (N := some 107) (v := ?_) (a' := ?_) (upto 73 17) rfl rfl (any_of HT_.out (by kernel_rfl)) (fun _ _ _ h => h) (Or.inl ⟨by rfl, ?_⟩) ?_ ?_
            rotate_left
            ·intro w'
             go_simp
             with_reducible rfl
            rotate_left
            ·simp only [Act.put, aA, aB, aC, i64_w, i32_w]
             rfl
            refine pure_ (i := 17) (N := some 108) (v := ?_) (a' := ?_) (upto 73 18) rfl rfl (any_of HT_.out (by kernel_rfl)) (fun _ _ _ h => h) (Or.inl ⟨by rfl, ?_⟩) ?_ ?_
            rotate_left
            ·intro w'
             go_simp
             with_reducible rfl
            rotate_left
            ·simp only [Act.put, aA, aB, aC, i64_w, i32_w]
             rfl
            refine pure_ (i := 18) (N := some 109) (v := ?_) (a' := ?_) (upto 73 19) rfl rfl (any_of HT_.out (by kernel_rfl)) (fun _ _ _ h => h) (Or.inl ⟨by rfl, ?_⟩) ?_ ?_
            rotate_left
            ·intro w'
             go_simp
             with_reducible rfl
            rotate_left
            ·simp only [Act.put, aA, aB, aC, i64_w, i32_w]
             rfl
            refine pure_ (i := 19) (N := some 110) (v := ?_) (a' := ?_) (upto 73 20) rfl rfl (any_of HT_.out (by kernel_rfl)) (fun _ _ _ h => h) (Or.inl ⟨by rfl, ?_⟩) ?_ ?_
            rotate_left
            ·intro w'
             go_simp
             with_reducible rfl
            rotate_left
            ·simp only [Act.put, aA, aB, aC, i64_w, i32_w]
             rfl
            refine pure_ (i := 20) (N := some 111) (v := ?_) (a' := ?_) (upto 73 21) rfl rfl (any_of HT_.out (by kernel_rfl)) (fun _ _ _ h => h) (Or.inl ⟨by rfl, ?_⟩) ?_ ?_
            rotate_left
            ·intro w'
             go_simp
             with_reducible rfl
            rotate_left
            ·simp only [Act.put, aA, aB, aC, i64_w, i32_w]
             rfl
            refine pure_ (i := 21) (N := some 112) (v := ?_) (a' := ?_) (upto 73 22) rfl rfl (any_of HT_.out (by kernel_rfl)) (fun _ _ _ h => h) (Or.inl ⟨by rfl, ?_⟩) ?_ ?_
            rotate_left
            ·intro w'
             go_simp
             with_reducible rfl
            rotate_left
            ·simp only [Act.put, aA, aB, aC, i64_w, i32_w]
             rfl
            refine pure_ (i := 22) (N := some 113) (v := ?_) (a' := ?_) (upto 73 23) rfl rfl (any_of HT_.out (by kernel_rfl)) (fun _ _ _ h => h) (Or.inl ⟨by rfl, ?_⟩) ?_ ?_
            rotate_left
            ·intro w'
             go_simp
             with_reducible rfl
            rotate_left
            ·simp only [Act.put, aA, aB, aC, i64_w, i32_w]
             rfl
            refine pure_ (i := 24) (N := some 115) (v := ?_) (a' := ?_) #[T_,T_,T_,T_,T_,T_,T_,T_,T_,T_,T_,T_,T_,T_,T_,T_,T_,T_,T_,T_,T_,T_,T_,F_,T_,F_,F_,F_,F_,F_,F_,F_,F_,F_,F_,F_,F_,F_,F_,F_,F_,F_,F_,F_,F_,F_,F_,F_,F_,F_,F_,F_,F_,F_,F_,F_,F_,F_,F_,F_,F_,F_,F_,F_,F_,F_,F_,F_,F_,F_,F_,F_,F_] rfl rfl (any_of HT_.out (by kernel_rfl)) (fun _ _ _ h => h) (Or.inl ⟨by rfl, ?_⟩) ?_ ?_
            rotate_left
            ·intro w'
             go_simp
             with_reducible rfl
            rotate_left
            ·simp only [Act.put, aA, aB, aC, i64_w, i32_w]
             rfl
            refine take_ (i := 23) (N := some 114) (v := ?_) (a' := ?_) (upto 73 25) rfl rfl (take_ofW HT_.out HW_.out (by kernel_rfl)) (fun _ _ _ h => h) (Or.inl ⟨by rfl, ?_⟩) hHeld ?_ ?_
            rotate_left
            ·rintro w' ⟨s0, s1, s2, s3, s4, s5, s6⟩
             go_simp
             with_reducible rfl
            rotate_left
            ·simp only [Act.put, aA, aB, aC, i64_w, i32_w]
             rfl
            refine one_ (i := 25) (N := some 116) (upto 73 26) rfl rfl (one_of HT_.out (by kernel_rfl)) (by decide) (fun K hK => ?_)
            refine goes_ Try.func23 (by kernel_rfl) rfl #[.string t231, .int .i64 (t227.length : Int), .int .i64 t230, .string (rdOf ByteArray.empty t227 t242), .slice Ao74 t233.length co74] (by rfl) rfl rfl (by (try simp only [List.map_toArray, List.map_cons, List.map_nil]); first | done | rfl | (simp only [List.length_drop, List.length_take]; rfl)) ?_
            with_reducible refine (tree_Verify.calls kj14 t231 (t227.length : Int) t230 (rdOf ByteArray.empty t227 t242) _ _ t233 false _ ?side1 ?side2 A62.out).mono ?_
            (case side1 => repeat (first | exact (Kd.R_reads' HO_15.out).2.2 | (with_reducible refine Kd.C_alloc ?_ _) | (with_reducible refine Kd.C_drewN ?_ _) | (with_reducible refine Kd.C_drew ?_)))
            (case side2 => exact (Kd.R_reads' HO_15.out).2.1)
            rintro e w76 ⟨rfl, hb⟩
            have HS0_ := (hb.cell (World.block_lt_of_cell? _ _ (hHeld.1))).trans (hHeld.1)
            have HS1_ := (hb.cell (World.block_lt_of_cell? _ _ (hHeld.2.1))).trans (hHeld.2.1)
            have HS2_ := (hb.cell (World.block_lt_of_cell? _ _ (hHeld.2.2.1))).trans (hHeld.2.2.1)
            have HS3_ := (hb.cell (World.block_lt_of_cell? _ _ (hHeld.2.2.2.1))).trans (hHeld.2.2.2.1)
            have HS4_ := (hb.cell (World.block_lt_of_cell? _ _ (hHeld.2.2.2.2.1))).trans (hHeld.2.2.2.2.1)
            have HS5_ := (hb.cell (World.block_lt_of_cell? _ _ (hHeld.2.2.2.2.2.1))).trans (hHeld.2.2.2.2.2.1)
            have HS6_ := (hb.cell (World.block_lt_of_cell? _ _ (hHeld.2.2.2.2.2.2))).trans (hHeld.2.2.2.2.2.2)
            refine ⟨_, rfl, ?_⟩
            have n0_ := Aside0.mk (Kd.R_below (by (with_reducible repeat (first | apply Kd.R_alloc | apply Kd.R_drewN | apply Kd.R_drew)); exact HO_10.out) hb)
            have n1_ := Aside0.mk (Kd.R_below (by (with_reducible repeat (first | apply Kd.R_alloc | apply Kd.R_drewN | apply Kd.R_drew)); exact HO_15.out) hb)
            have n2_ := Aside0.mk (below_step (by repeat (first | (with_reducible first | exact HB.out | apply below_alloc | apply pw_below_drewN | apply below_drew1) | exact HB.out)) hb)
            clear HO_10
            clear HO_15
            clear HB
            have HO_10 := n0_
            have HO_15 := n1_
            have HB := n2_
            clear n0_ n1_ n2_
            (try clear hb)
            (try clear hb2)
            (try clear hk)
            (try clear hi)
            refine hK.out _ _ ⟨HS0_, HS1_, HS2_, HS3_, HS4_, HS5_, HS6_⟩ (fun hHeld => ?_)
            clear hK K
            refine norm_ (a' := ?_) ?_ ?_
            rotate_left
            ·show Act.put _ (some 116) _ = _
             simp only [Act.put, aA, aB, aC, i64_w, i32_w]
             rfl
            refine pure_ (i := 26) (N := some 117) (v := ?_) (a' := ?_) (upto 73 27) rfl rfl (any_of HT_.out (by kernel_rfl)) (fun _ _ _ h => h) (Or.inl ⟨by rfl, ?_⟩) ?_ ?_
            rotate_left
            ·intro w'
             go_simp
             with_reducible rfl
            rotate_left
            ·simp only [Act.put, aA, aB, aC, i64_w, i32_w]
             rfl
            refine pure_ (i := 27) (N := some 118) (v := ?_) (a' := ?_) (upto 73 28) rfl rfl (any_of HT_.out (by kernel_rfl)) (fun _ _ _ h => h) (Or.inl ⟨by rfl, ?_⟩) ?_ ?_
            rotate_left
            ·intro w'
             go_simp
             with_reducible rfl
            rotate_left
            ·simp only [Act.put, aA, aB, aC, i64_w, i32_w]
             rfl
            refine pure_ (i := 28) (N := some 119) (v := ?_) (a' := ?_) (upto 73 29) rfl rfl (any_of HT_.out (by kernel_rfl)) (fun _ _ _ h => h) (Or.inl ⟨by rfl, ?_⟩) ?_ ?_
            rotate_left
            ·intro w'
             go_simp
             with_reducible rfl
            rotate_left
            ·simp only [Act.put, aA, aB, aC, i64_w, i32_w]
             rfl
            refine pure_ (i := 29) (N := some 120) (v := ?_) (a' := ?_) (upto 73 30) rfl rfl (any_of HT_.out (by kernel_rfl)) (fun _ _ _ h => h) (Or.inl ⟨by rfl, ?_⟩) ?_ ?_
            rotate_left
            ·intro w'
             go_simp
             with_reducible rfl
            rotate_left
            ·simp only [Act.put, aA, aB, aC, i64_w, i32_w]
             rfl
            refine pure_ (i := 30) (N := some 121) (v := ?_) (a' := ?_) (upto 73 31) rfl rfl (any_of HT_.out (by kernel_rfl)) (fun _ _ _ h => h) (Or.inl ⟨by rfl, ?_⟩) ?_ ?_
            rotate_left
            ·intro w'
             go_simp
             with_reducible rfl
            rotate_left
            ·simp only [Act.put, aA, aB, aC, i64_w, i32_w]
             rfl
            refine pure_ (i := 31) (N := some 122) (v := ?_) (a' := ?_) (upto 73 32) rfl rfl (any_of HT_.out (by kernel_rfl)) (fun _ _ _ h => h) (Or.inl ⟨by rfl, ?_⟩) ?_ ?_
            rotate_left
            ·intro w'
             go_simp
             with_reducible rfl
            rotate_left
            ·simp only [Act.put, aA, aB, aC, i64_w, i32_w]
             rfl
            refine pure_ (i := 32) (N := some 123) (v := ?_) (a' := ?_) (upto 73 33) rfl rfl (any_of HT_.out (by kernel_rfl)) (fun _ _ _ h => h) (Or.inl ⟨by rfl, ?_⟩) ?_ ?_
            rotate_left
            ·intro w'
             go_simp
             with_reducible rfl
            rotate_left
            ·simp only [Act.put, aA, aB, aC, i64_w, i32_w]
             rfl
            refine pure_ (i := 33) (N := some 124) (v := ?_) (a' := ?_) (upto 73 34) rfl rfl (any_of HT_.out (by kernel_rfl)) (fun _ _ _ h => h) (Or.inl ⟨by rfl, ?_⟩) ?_ ?_
            rotate_left
            ·intro w'
             go_simp
             with_reducible rfl
            rotate_left
            ·simp only [Act.put, aA, aB, aC, i64_w, i32_w]
             rfl
            refine pure_ (i := 34) (N := some 125) (v := ?_) (a' := ?_) (upto 73 35) rfl rfl (any_of HT_.out (by kernel_rfl)) (fun _ _ _ h => h) (Or.inl ⟨by rfl, ?_⟩) ?_ ?_
            rotate_left
            ·intro w'
             go_simp
             with_reducible rfl
            rotate_left
            ·simp only [Act.put, aA, aB, aC, i64_w, i32_w]
             rfl
            refine pure_ (i := 36) (N := some 127) (v := ?_) (a' := ?_) #[T_,T_,T_,T_,T_,T_,T_,T_,T_,T_,T_,T_,T_,T_,T_,T_,T_,T_,T_,T_,T_,T_,T_,T_,T_,T_,T_,T_,T_,T_,T_,T_,T_,T_,T_,F_,T_,F_,F_,F_,F_,F_,F_,F_,F_,F_,F_,F_,F_,F_,F_,F_,F_,F_,F_,F_,F_,F_,F_,F_,F_,F_,F_,F_,F_,F_,F_,F_,F_,F_,F_,F_,F_] rfl rfl (any_of HT_.out (by kernel_rfl)) (fun _ _ _ h => h) (Or.inl ⟨by rfl, ?_⟩) ?_ ?_
            rotate_left
            ·intro w'
             go_simp
             with_reducible rfl
            rotate_left
            ·simp only [Act.put, aA, aB, aC, i64_w, i32_w]
             rfl
            refine take_ (i := 35) (N := some 126) (v := ?_) (a' := ?_) (upto 73 37) rfl rfl (take_ofW HT_.out HW_.out (by kernel_rfl)) (fun _ _ _ h => h) (Or.inl ⟨by rfl, ?_⟩) hHeld ?_ ?_
            rotate_left
            ·rintro w' ⟨s0, s1, s2, s3, s4, s5, s6⟩
             go_simp
             with_reducible rfl
            rotate_left
            ·simp only [Act.put, aA, aB, aC, i64_w, i32_w]
             rfl
            refine one_ (i := 37) (N := some 128) (upto 73 38) rfl rfl (one_of HT_.out (by kernel_rfl)) (by decide) (fun K hK => ?_)
            refine goes_ Try.func23 (by kernel_rfl) rfl #[.string t231, .int .i64 (t227.length : Int), .int .i64 (t227.length : Int), .string (rdOf ByteArray.empty t227 t230), .slice Ao74 t233.length co74] (by rfl) rfl rfl (by (try simp only [List.map_toArray, List.map_cons, List.map_nil]); first | done | rfl | (simp only [List.length_drop, List.length_take]; rfl)) ?_
            with_reducible refine (tree_Verify.calls kj14 t231 (t227.length : Int) (t227.length : Int) (rdOf ByteArray.empty t227 t230) _ _ t233 false _ ?side1 ?side2 A64.out).mono ?_
            (case side1 => repeat (first | exact (Kd.R_reads' HO_15.out).2.2 | (with_reducible refine Kd.C_alloc ?_ _) | (with_reducible refine Kd.C_drewN ?_ _) | (with_reducible refine Kd.C_drew ?_)))
            (case side2 => exact (Kd.R_reads' HO_15.out).2.1)
            rintro e w77 ⟨rfl, hb⟩
            have HS0_ := (hb.cell (World.block_lt_of_cell? _ _ (hHeld.1))).trans (hHeld.1)
            have HS1_ := (hb.cell (World.block_lt_of_cell? _ _ (hHeld.2.1))).trans (hHeld.2.1)
            have HS2_ := (hb.cell (World.block_lt_of_cell? _ _ (hHeld.2.2.1))).trans (hHeld.2.2.1)
            have HS3_ := (hb.cell (World.block_lt_of_cell? _ _ (hHeld.2.2.2.1))).trans (hHeld.2.2.2.1)
            have HS4_ := (hb.cell (World.block_lt_of_cell? _ _ (hHeld.2.2.2.2.1))).trans (hHeld.2.2.2.2.1)
            have HS5_ := (hb.cell (World.block_lt_of_cell? _ _ (hHeld.2.2.2.2.2.1))).trans (hHeld.2.2.2.2.2.1)
            have HS6_ := (hb.cell (World.block_lt_of_cell? _ _ (hHeld.2.2.2.2.2.2))).trans (hHeld.2.2.2.2.2.2)
            refine ⟨_, rfl, ?_⟩
            have n0_ := Aside0.mk (Kd.R_below (by (with_reducible repeat (first | apply Kd.R_alloc | apply Kd.R_drewN | apply Kd.R_drew)); exact HO_10.out) hb)
            have n1_ := Aside0.mk (Kd.R_below (by (with_reducible repeat (first | apply Kd.R_alloc | apply Kd.R_drewN | apply Kd.R_drew)); exact HO_15.out) hb)
            have n2_ := Aside0.mk (below_step (by repeat (first | (with_reducible first | exact HB.out | apply below_alloc | apply pw_below_drewN | apply below_drew1) | exact HB.out)) hb)
            clear HO_10
            clear HO_15
            clear HB
            have HO_10 := n0_
            have HO_15 := n1_
            have HB := n2_
            clear n0_ n1_ n2_
            (try clear hb)
            (try clear hb2)
            (try clear hk)
            (try clear hi)
            refine hK.out _ _ ⟨HS0_, HS1_, HS2_, HS3_, HS4_, HS5_, HS6_⟩ (fun hHeld => ?_)
            clear hK K
            refine norm_ (a' := ?_) ?_ ?_
            rotate_left
            ·show Act.put _ (some 128) _ = _
             simp only [Act.put, aA, aB, aC, i64_w, i32_w]
             rfl
            refine pure_ (i := 38) (N := some 129) (v := ?_) (a' := ?_) (upto 73 39) rfl rfl (any_of HT_.out (by kernel_rfl)) (fun _ _ _ h => h) (Or.inl ⟨by rfl, ?_⟩) ?_ ?_
            rotate_left
            ·intro w'
             go_simp
             with_reducible rfl
            rotate_left
            ·simp only [Act.put, aA, aB, aC, i64_w, i32_w]
             rfl
            refine pure_ (i := 39) (N := some 130) (v := ?_) (a' := ?_) (upto 73 40) rfl rfl (any_of HT_.out (by kernel_rfl)) (fun _ _ _ h => h) (Or.inl ⟨by rfl, ?_⟩) ?_ ?_
            rotate_left
            ·intro w'
             go_simp
             with_reducible rfl
            rotate_left
            ·simp only [Act.put, aA, aB, aC, i64_w, i32_w]
             rfl
            refine pure_ (i := 40) (N := some 131) (v := ?_) (a' := ?_) (upto 73 41) rfl rfl (any_of HT_.out (by kernel_rfl)) (fun _ _ _ h => h) (Or.inl ⟨by rfl, ?_⟩) ?_ ?_
            rotate_left
            ·intro w'
             go_simp
             with_reducible rfl
            rotate_left
            ·simp only [Act.put, aA, aB, aC, i64_w, i32_w]
             rfl
            refine pure_ (i := 41) (N := some 132) (v := ?_) (a' := ?_) (upto 73 42) rfl rfl (any_of HT_.out (by kernel_rfl)) (fun _ _ _ h => h) (Or.inl ⟨by rfl, ?_⟩) ?_ ?_
            rotate_left
            ·intro w'
             go_simp
             with_reducible rfl
            rotate_left
            ·simp only [Act.put, aA, aB, aC, i64_w, i32_w]
             rfl
            refine pure_ (i := 42) (N := some 133) (v := ?_) (a' := ?_) (upto 73 43) rfl rfl (any_of HT_.out (by kernel_rfl)) (fun _ _ _ h => h) (Or.inl ⟨by rfl, ?_⟩) ?_ ?_
            rotate_left
            ·intro w'
             go_simp
             with_reducible rfl
            rotate_left
            ·simp only [Act.put, aA, aB, aC, i64_w, i32_w]
             rfl
            refine pure_ (i := 43) (N := some 134) (v := ?_) (a' := ?_) (upto 73 44) rfl rfl (any_of HT_.out (by kernel_rfl)) (fun _ _ _ h => h) (Or.inl ⟨by rfl, ?_⟩) ?_ ?_
            rotate_left
            ·intro w'
             go_simp
             with_reducible rfl
            rotate_left
            ·simp only [Act.put, aA, aB, aC, i64_w, i32_w]
             rfl
            refine pure_ (i := 44) (N := some 135) (v := ?_) (a' := ?_) (upto 73 45) rfl rfl (any_of HT_.out (by kernel_rfl)) (fun _ _ _ h => h) (Or.inl ⟨by rfl, ?_⟩) ?_ ?_
            rotate_left
            ·intro w'
             go_simp
             with_reducible rfl
            rotate_left
            ·simp only [Act.put, aA, aB, aC, i64_w, i32_w]
             rfl
            refine pure_ (i := 46) (N := some 137) (v := ?_) (a' := ?_) #[T_,T_,T_,T_,T_,T_,T_,T_,T_,T_,T_,T_,T_,T_,T_,T_,T_,T_,T_,T_,T_,T_,T_,T_,T_,T_,T_,T_,T_,T_,T_,T_,T_,T_,T_,T_,T_,T_,T_,T_,T_,T_,T_,T_,T_,F_,T_,F_,F_,F_,F_,F_,F_,F_,F_,F_,F_,F_,F_,F_,F_,F_,F_,F_,F_,F_,F_,F_,F_,F_,F_,F_,F_] rfl rfl (any_of HT_.out (by kernel_rfl)) (fun _ _ _ h => h) (Or.inl ⟨by rfl, ?_⟩) ?_ ?_
            rotate_left
            ·intro w'
             go_simp
             with_reducible rfl
            rotate_left
            ·simp only [Act.put, aA, aB, aC, i64_w, i32_w]
             rfl
            refine take_ (i := 45) (N := some 136) (v := ?_) (a' := ?_) (upto 73 47) rfl rfl (take_ofW HT_.out HW_.out (by kernel_rfl)) (fun _ _ _ h => h) (Or.inl ⟨by rfl, ?_⟩) hHeld ?_ ?_
            rotate_left
            ·rintro w' ⟨s0, s1, s2, s3, s4, s5, s6⟩
             go_simp
             with_reducible rfl
            rotate_left
            ·simp only [Act.put, aA, aB, aC, i64_w, i32_w]
             rfl
            refine one_ (i := 47) (N := some 138) (upto 73 48) rfl rfl (one_of HT_.out (by kernel_rfl)) (by decide) (fun K hK => ?_)
            refine goes_ Try.func23 (by kernel_rfl) rfl #[.string t231, .int .i64 (t227.length : Int), .int .i64 (-1), .string (rdOf ByteArray.empty t227 t230), .slice Ao74 t233.length co74] (by rfl) rfl rfl (by (try simp only [List.map_toArray, List.map_cons, List.map_nil]); first | done | rfl | (simp only [List.length_drop, List.length_take]; rfl)) ?_
            with_reducible refine (tree_Verify.calls kj14 t231 (t227.length : Int) (-1) (rdOf ByteArray.empty t227 t230) _ _ t233 false _ ?side1 ?side2 A66.out).mono ?_
            (case side1 => repeat (first | exact (Kd.R_reads' HO_15.out).2.2 | (with_reducible refine Kd.C_alloc ?_ _) | (with_reducible refine Kd.C_drewN ?_ _) | (with_reducible refine Kd.C_drew ?_)))
            (case side2 => exact (Kd.R_reads' HO_15.out).2.1)
            rintro e w78 ⟨rfl, hb⟩
            have HS0_ := (hb.cell (World.block_lt_of_cell? _ _ (hHeld.1))).trans (hHeld.1)
            have HS1_ := (hb.cell (World.block_lt_of_cell? _ _ (hHeld.2.1))).trans (hHeld.2.1)
            have HS2_ := (hb.cell (World.block_lt_of_cell? _ _ (hHeld.2.2.1))).trans (hHeld.2.2.1)
            have HS3_ := (hb.cell (World.block_lt_of_cell? _ _ (hHeld.2.2.2.1))).trans (hHeld.2.2.2.1)
            have HS4_ := (hb.cell (World.block_lt_of_cell? _ _ (hHeld.2.2.2.2.1))).trans (hHeld.2.2.2.2.1)
            have HS5_ := (hb.cell (World.block_lt_of_cell? _ _ (hHeld.2.2.2.2.2.1))).trans (hHeld.2.2.2.2.2.1)
            have HS6_ := (hb.cell (World.block_lt_of_cell? _ _ (hHeld.2.2.2.2.2.2))).trans (hHeld.2.2.2.2.2.2)
            refine ⟨_, rfl, ?_⟩
            have n0_ := Aside0.mk (Kd.R_below (by (with_reducible repeat (first | apply Kd.R_alloc | apply Kd.R_drewN | apply Kd.R_drew)); exact HO_10.out) hb)
            have n1_ := Aside0.mk (Kd.R_below (by (with_reducible repeat (first | apply Kd.R_alloc | apply Kd.R_drewN | apply Kd.R_drew)); exact HO_15.out) hb)
            have n2_ := Aside0.mk (below_step (by repeat (first | (with_reducible first | exact HB.out | apply below_alloc | apply pw_below_drewN | apply below_drew1) | exact HB.out)) hb)
            clear HO_10
            clear HO_15
            clear HB
            have HO_10 := n0_
            have HO_15 := n1_
            have HB := n2_
            clear n0_ n1_ n2_
            (try clear hb)
            (try clear hb2)
            (try clear hk)
            (try clear hi)
            refine hK.out _ _ ⟨HS0_, HS1_, HS2_, HS3_, HS4_, HS5_, HS6_⟩ (fun hHeld => ?_)
            clear hK K
            refine norm_ (a' := ?_) ?_ ?_
            rotate_left
            ·show Act.put _ (some 138) _ = _
             simp only [Act.put, aA, aB, aC, i64_w, i32_w]
             rfl
            refine pure_ (i := 48) (N := some 139) (v := ?_) (a' := ?_) (upto 73 49) rfl rfl (any_of HT_.out (by kernel_rfl)) (fun _ _ _ h => h) (Or.inl ⟨by rfl, ?_⟩) ?_ ?_
            rotate_left
            ·intro w'
             go_simp
             with_reducible rfl
            rotate_left
            ·simp only [Act.put, aA, aB, aC, i64_w, i32_w]
             rfl
            refine pure_ (i := 49) (N := some 140) (v := ?_) (a' := ?_) (upto 73 50) rfl rfl (any_of HT_.out (by kernel_rfl)) (fun _ _ _ h => h) (Or.inl ⟨by rfl, ?_⟩) ?_ ?_
            rotate_left
            ·intro w'
             go_simp
             with_reducible rfl
            rotate_left
            ·simp only [Act.put, aA, aB, aC, i64_w, i32_w]
             rfl
            refine pure_ (i := 50) (N := some 141) (v := ?_) (a' := ?_) (upto 73 51) rfl rfl (any_of HT_.out (by kernel_rfl)) (fun _ _ _ h => h) (Or.inl ⟨by rfl, ?_⟩) ?_ ?_
            rotate_left
            ·intro w'
             go_simp
             with_reducible rfl
            rotate_left
            ·simp only [Act.put, aA, aB, aC, i64_w, i32_w]
             rfl
            refine pure_ (i := 51) (N := some 142) (v := ?_) (a' := ?_) (upto 73 52) rfl rfl (any_of HT_.out (by kernel_rfl)) (fun _ _ _ h => h) (Or.inl ⟨by rfl, ?_⟩) ?_ ?_
            rotate_left
            ·intro w'
             go_simp
             with_reducible rfl
            rotate_left
            ·simp only [Act.put, aA, aB, aC, i64_w, i32_w]
             rfl
            refine pure_ (i := 52) (N := some 143) (v := ?_) (a' := ?_) (upto 73 53) rfl rfl (any_of HT_.out (by kernel_rfl)) (fun _ _ _ h => h) (Or.inl ⟨by rfl, ?_⟩) ?_ ?_
            rotate_left
            ·intro w'
             go_simp
             with_reducible rfl
            rotate_left
            ·simp only [Act.put, aA, aB, aC, i64_w, i32_w]
             rfl
            refine pure_ (i := 53) (N := some 144) (v := ?_) (a' := ?_) (upto 73 54) rfl rfl (any_of HT_.out (by kernel_rfl)) (fun _ _ _ h => h) (Or.inl ⟨by rfl, ?_⟩) ?_ ?_
            rotate_left
            ·intro w'
             go_simp
             with_reducible rfl
            rotate_left
            ·simp only [Act.put, aA, aB, aC, i64_w, i32_w]
             rfl
            refine pure_ (i := 54) (N := some 145) (v := ?_) (a' := ?_) (upto 73 55) rfl rfl (any_of HT_.out (by kernel_rfl)) (fun _ _ _ h => h) (Or.inl ⟨by rfl, ?_⟩) ?_ ?_
            rotate_left
            ·intro w'
             go_simp
             with_reducible rfl
            rotate_left
            ·simp only [Act.put, aA, aB, aC, i64_w, i32_w]
             rfl
            refine pure_ (i := 55) (N := some 146) (v := ?_) (a' := ?_) (upto 73 56) rfl rfl (any_of HT_.out (by kernel_rfl)) (fun _ _ _ h => h) (Or.inl ⟨by rfl, ?_⟩) ?_ ?_
            rotate_left
            ·intro w'
             go_simp
             with_reducible rfl
            rotate_left
            ·simp only [Act.put, aA, aB, aC, i64_w, i32_w]
             rfl
            refine pure_ (i := 56) (N := some 147) (v := ?_) (a' := ?_) (upto 73 57) rfl rfl (any_of HT_.out (by kernel_rfl)) (fun _ _ _ h => h) (Or.inl ⟨by rfl, ?_⟩) ?_ ?_
            rotate_left
            ·intro w'
             go_simp
             with_reducible rfl
            rotate_left
            ·simp only [Act.put, aA, aB, aC, i64_w, i32_w]
             rfl
            refine pure_ (i := 58) (N := some 149) (v := ?_) (a' := ?_) #[T_,T_,T_,T_,T_,T_,T_,T_,T_,T_,T_,T_,T_,T_,T_,T_,T_,T_,T_,T_,T_,T_,T_,T_,T_,T_,T_,T_,T_,T_,T_,T_,T_,T_,T_,T_,T_,T_,T_,T_,T_,T_,T_,T_,T_,T_,T_,T_,T_,T_,T_,T_,T_,T_,T_,T_,T_,F_,T_,F_,F_,F_,F_,F_,F_,F_,F_,F_,F_,F_,F_,F_,F_] rfl rfl (any_of HT_.out (by kernel_rfl)) (fun _ _ _ h => h) (Or.inl ⟨by rfl, ?_⟩) ?_ ?_
            rotate_left
            ·intro w'
             go_simp
             with_reducible rfl
            rotate_left
            ·simp only [Act.put, aA, aB, aC, i64_w, i32_w]
             rfl
            refine take_ (i := 57) (N := some 148) (v := ?_) (a' := ?_) (upto 73 59) rfl rfl (take_ofW HT_.out HW_.out (by kernel_rfl)) (fun _ _ _ h => h) (Or.inl ⟨by rfl, ?_⟩) hHeld ?_ ?_
            rotate_left
            ·rintro w' ⟨s0, s1, s2, s3, s4, s5, s6⟩
             go_simp
             with_reducible rfl
            rotate_left
            ·simp only [Act.put, aA, aB, aC, i64_w, i32_w]
             rfl
            refine one_ (i := 59) (N := some 150) (upto 73 60) rfl rfl (one_of HT_.out (by kernel_rfl)) (by decide) (fun K hK => ?_)
            refine goes_ Try.func23 (by kernel_rfl) rfl #[.string ((⟨#[104]⟩ : ByteArray) ++ t231), .int .i64 (t227.length : Int), .int .i64 t230, .string (rdOf ByteArray.empty t227 t230), .slice Ao74 t233.length co74] (by rfl) rfl rfl (by (try simp only [List.map_toArray, List.map_cons, List.map_nil]); first | done | rfl | (simp only [List.length_drop, List.length_take]; rfl)) ?_
            with_reducible refine (tree_Verify.calls kj14 ((⟨#[104]⟩ : ByteArray) ++ t231) (t227.length : Int) t230 (rdOf ByteArray.empty t227 t230) _ _ t233 false _ ?side1 ?side2 A69.out).mono ?_
            (case side1 => repeat (first | exact (Kd.R_reads' HO_15.out).2.2 | (with_reducible refine Kd.C_alloc ?_ _) | (with_reducible refine Kd.C_drewN ?_ _) | (with_reducible refine Kd.C_drew ?_)))
            (case side2 => exact (Kd.R_reads' HO_15.out).2.1)
            rintro e w79 ⟨rfl, hb⟩
            have HS0_ := (hb.cell (World.block_lt_of_cell? _ _ (hHeld.1))).trans (hHeld.1)
            have HS1_ := (hb.cell (World.block_lt_of_cell? _ _ (hHeld.2.1))).trans (hHeld.2.1)
            have HS2_ := (hb.cell (World.block_lt_of_cell? _ _ (hHeld.2.2.1))).trans (hHeld.2.2.1)
            have HS3_ := (hb.cell (World.block_lt_of_cell? _ _ (hHeld.2.2.2.1))).trans (hHeld.2.2.2.1)
            have HS4_ := (hb.cell (World.block_lt_of_cell? _ _ (hHeld.2.2.2.2.1))).trans (hHeld.2.2.2.2.1)
            have HS5_ := (hb.cell (World.block_lt_of_cell? _ _ (hHeld.2.2.2.2.2.1))).trans (hHeld.2.2.2.2.2.1)
            have HS6_ := (hb.cell (World.block_lt_of_cell? _ _ (hHeld.2.2.2.2.2.2))).trans (hHeld.2.2.2.2.2.2)
            refine ⟨_, rfl, ?_⟩
            have n0_ := Aside0.mk (Kd.R_below (by (with_reducible repeat (first | apply Kd.R_alloc | apply Kd.R_drewN | apply Kd.R_drew)); exact HO_10.out) hb)
            have n1_ := Aside0.mk (Kd.R_below (by (with_reducible repeat (first | apply Kd.R_alloc | apply Kd.R_drewN | apply Kd.R_drew)); exact HO_15.out) hb)
            have n2_ := Aside0.mk (below_step (by repeat (first | (with_reducible first | exact HB.out | apply below_alloc | apply pw_below_drewN | apply below_drew1) | exact HB.out)) hb)
            clear HO_10
            clear HO_15
            clear HB
            have HO_10 := n0_
            have HO_15 := n1_
            have HB := n2_
            clear n0_ n1_ n2_
            (try clear hb)
            (try clear hb2)
            (try clear hk)
            (try clear hi)
            refine hK.out _ _ ⟨HS0_, HS1_, HS2_, HS3_, HS4_, HS5_, HS6_⟩ (fun hHeld => ?_)
            clear hK K
            refine norm_ (a' := ?_) ?_ ?_
            rotate_left
            ·show Act.put _ (some 150) _ = _
             simp only [Act.put, aA, aB, aC, i64_w, i32_w]
             rfl
            refine pure_ (i := 60) (N := some 151) (v := ?_) (a' := ?_) (upto 73 61) rfl rfl (any_of HT_.out (by kernel_rfl)) (fun _ _ _ h => h) (Or.inl ⟨by rfl, ?_⟩) ?_ ?_
            rotate_left
            ·intro w'
             go_simp
             with_reducible rfl
            rotate_left
            ·simp only [Act.put, aA, aB, aC, i64_w, i32_w]
             rfl
            refine pure_ (i := 61) (N := some 152) (v := ?_) (a' := ?_) (upto 73 62) rfl rfl (any_of HT_.out (by kernel_rfl)) (fun _ _ _ h => h) (Or.inl ⟨by rfl, ?_⟩) ?_ ?_
            rotate_left
            ·intro w'
             go_simp
             with_reducible rfl
            rotate_left
            ·simp only [Act.put, aA, aB, aC, i64_w, i32_w]
             rfl
            refine pure_ (i := 62) (N := some 153) (v := ?_) (a' := ?_) (upto 73 63) rfl rfl (any_of HT_.out (by kernel_rfl)) (fun _ _ _ h => h) (Or.inl ⟨by rfl, ?_⟩) ?_ ?_
            rotate_left
            ·intro w'
             go_simp
             with_reducible rfl
            rotate_left
            ·simp only [Act.put, aA, aB, aC, i64_w, i32_w]
             rfl
            refine pure_ (i := 63) (N := some 154) (v := ?_) (a' := ?_) (upto 73 64) rfl rfl (any_of HT_.out (by kernel_rfl)) (fun _ _ _ h => h) (Or.inl ⟨by rfl, ?_⟩) ?_ ?_
            rotate_left
            ·intro w'
             go_simp
             with_reducible rfl
            rotate_left
            ·simp only [Act.put, aA, aB, aC, i64_w, i32_w]
             rfl
            refine pure_ (i := 64) (N := some 155) (v := ?_) (a' := ?_) (upto 73 65) rfl rfl (any_of HT_.out (by kernel_rfl)) (fun _ _ _ h => h) (Or.inl ⟨by rfl, ?_⟩) ?_ ?_
            rotate_left
            ·intro w'
             go_simp
             with_reducible rfl
            rotate_left
            ·simp only [Act.put, aA, aB, aC, i64_w, i32_w]
             rfl
            refine pure_ (i := 65) (N := some 156) (v := ?_) (a' := ?_) (upto 73 66) rfl rfl (any_of HT_.out (by kernel_rfl)) (fun _ _ _ h => h) (Or.inl ⟨by rfl, ?_⟩) ?_ ?_
            rotate_left
            ·intro w'
             go_simp
             with_reducible rfl
            rotate_left
            ·simp only [Act.put, aA, aB, aC, i64_w, i32_w]
             rfl
            refine pure_ (i := 66) (N := some 157) (v := ?_) (a' := ?_) (upto 73 67) rfl rfl (any_of HT_.out (by kernel_rfl)) (fun _ _ _ h => h) (Or.inl ⟨by rfl, ?_⟩) ?_ ?_
            rotate_left
            ·intro w'
             go_simp
             with_reducible rfl
            rotate_left
            ·simp only [Act.put, aA, aB, aC, i64_w, i32_w]
             rfl
            refine pure_ (i := 67) (N := some 158) (v := ?_) (a' := ?_) (upto 73 68) rfl rfl (any_of HT_.out (by kernel_rfl)) (fun _ _ _ h => h) (Or.inl ⟨by rfl, ?_⟩) ?_ ?_
            rotate_left
            ·intro w'
             go_simp
             with_reducible rfl
            rotate_left
            ·simp only [Act.put, aA, aB, aC, i64_w, i32_w]
             rfl
            refine pure_ (i := 70) (N := some 161) (v := ?_) (a' := ?_) #[T_,T_,T_,T_,T_,T_,T_,T_,T_,T_,T_,T_,T_,T_,T_,T_,T_,T_,T_,T_,T_,T_,T_,T_,T_,T_,T_,T_,T_,T_,T_,T_,T_,T_,T_,T_,T_,T_,T_,T_,T_,T_,T_,T_,T_,T_,T_,T_,T_,T_,T_,T_,T_,T_,T_,T_,T_,T_,T_,T_,T_,T_,T_,T_,T_,T_,T_,T_,F_,F_,T_,F_,F_] rfl rfl (any_of HT_.out (by kernel_rfl)) (fun _ _ _ h => h) (Or.inl ⟨by rfl, ?_⟩) ?_ ?_
            rotate_left
            ·intro w'
             go_simp
             with_reducible rfl
            rotate_left
            ·simp only [Act.put, aA, aB, aC, i64_w, i32_w]
             rfl
            refine take_ (i := 68) (N := some 159) (v := ?_) (a' := ?_) #[T_,T_,T_,T_,T_,T_,T_,T_,T_,T_,T_,T_,T_,T_,T_,T_,T_,T_,T_,T_,T_,T_,T_,T_,T_,T_,T_,T_,T_,T_,T_,T_,T_,T_,T_,T_,T_,T_,T_,T_,T_,T_,T_,T_,T_,T_,T_,T_,T_,T_,T_,T_,T_,T_,T_,T_,T_,T_,T_,T_,T_,T_,T_,T_,T_,T_,T_,T_,T_,F_,T_,F_,F_] rfl rfl (take_ofW HT_.out HW_.out (by kernel_rfl)) (fun _ _ _ h => h) (Or.inl ⟨by rfl, ?_⟩) hHeld ?_ ?_
            rotate_left
            ·rintro w' ⟨s0, s1, s2, s3, s4, s5, s6⟩
             go_simp
             with_reducible rfl
            rotate_left
            ·simp only [Act.put, aA, aB, aC, i64_w, i32_w]
             rfl
            refine pure_ (i := 69) (N := some 160) (v := ?_) (a' := ?_) (upto 73 71) rfl rfl (any_of HT_.out (by kernel_rfl)) (fun _ _ _ h => h) (Or.inl ⟨by rfl, ?_⟩) ?_ ?_
            rotate_left
            ·intro w'
             go_simp
             with_reducible rfl
            rotate_left
            ·simp only [Act.put, aA, aB, aC, i64_w, i32_w]
             rfl
            refine one_ (i := 71) (N := some 162) (upto 73 72) rfl rfl (one_of HT_.out (by kernel_rfl)) (by decide) (fun K hK => ?_)
            refine goes_ Try.func23 (by kernel_rfl) rfl #[.string t231, .int .i64 (t227.length : Int), .int .i64 t230, .string ((⟨#[104]⟩ : ByteArray) ++ (rdOf ByteArray.empty t227 t230)), .slice Ao74 t233.length co74] (by rfl) rfl rfl (by (try simp only [List.map_toArray, List.map_cons, List.map_nil]); first | done | rfl | (simp only [List.length_drop, List.length_take]; rfl)) ?_
            with_reducible refine (tree_Verify.calls kj14 t231 (t227.length : Int) t230 ((⟨#[104]⟩ : ByteArray) ++ (rdOf ByteArray.empty t227 t230)) _ _ t233 t263 _ ?side1 ?side2 A72.out).mono ?_
            (case side1 => repeat (first | exact (Kd.R_reads' HO_15.out).2.2 | (with_reducible refine Kd.C_alloc ?_ _) | (with_reducible refine Kd.C_drewN ?_ _) | (with_reducible refine Kd.C_drew ?_)))
            (case side2 => exact (Kd.R_reads' HO_15.out).2.1)
            rintro e w80 ⟨rfl, hb⟩
            have HS0_ := (hb.cell (World.block_lt_of_cell? _ _ (hHeld.1))).trans (hHeld.1)
            have HS1_ := (hb.cell (World.block_lt_of_cell? _ _ (hHeld.2.1))).trans (hHeld.2.1)
            have HS2_ := (hb.cell (World.block_lt_of_cell? _ _ (hHeld.2.2.1))).trans (hHeld.2.2.1)
            have HS3_ := (hb.cell (World.block_lt_of_cell? _ _ (hHeld.2.2.2.1))).trans (hHeld.2.2.2.1)
            have HS4_ := (hb.cell (World.block_lt_of_cell? _ _ (hHeld.2.2.2.2.1))).trans (hHeld.2.2.2.2.1)
            have HS5_ := (hb.cell (World.block_lt_of_cell? _ _ (hHeld.2.2.2.2.2.1))).trans (hHeld.2.2.2.2.2.1)
            have HS6_ := (hb.cell (World.block_lt_of_cell? _ _ (hHeld.2.2.2.2.2.2))).trans (hHeld.2.2.2.2.2.2)
            refine ⟨_, rfl, ?_⟩
            have n0_ := Aside0.mk (Kd.R_below (by (with_reducible repeat (first | apply Kd.R_alloc | apply Kd.R_drewN | apply Kd.R_drew)); exact HO_10.out) hb)
            have n1_ := Aside0.mk (Kd.R_below (by (with_reducible repeat (first | apply Kd.R_alloc | apply Kd.R_drewN | apply Kd.R_drew)); exact HO_15.out) hb)
            have n2_ := Aside0.mk (below_step (by repeat (first | (with_reducible first | exact HB.out | apply below_alloc | apply pw_below_drewN | apply below_drew1) | exact HB.out)) hb)
            clear HO_10
            clear HO_15
            clear HB
            have HO_10 := n0_
            have HO_15 := n1_
            have HB := n2_
            clear n0_ n1_ n2_
            (try clear hb)
            (try clear hb2)
            (try clear hk)
            (try clear hi)
            refine hK.out _ _ ⟨HS0_, HS1_, HS2_, HS3_, HS4_, HS5_, HS6_⟩ (fun hHeld => ?_)
            clear hK K
            refine norm_ (a' := ?_) ?_ ?_
            rotate_left
            ·show Act.put _ (some 162) _ = _
             simp only [Act.put, aA, aB, aC, i64_w, i32_w]
             rfl
            refine pure_ (i := 72) (N := some 163) (v := ?_) (a' := ?_) (upto 73 73) rfl rfl (any_of HT_.out (by kernel_rfl)) (fun _ _ _ h => h) (Or.inl ⟨by rfl, ?_⟩) ?_ ?_
            rotate_left
            ·intro w'
             go_simp
             with_reducible rfl
            rotate_left
            ·simp only [Act.put, aA, aB, aC, i64_w, i32_w]
             rfl
            refine done_ (done_of HT_.out (by kernel_rfl)) ?_
            try go_wp2
            go_meet
            case rel => exact ⟨_, (t263), (by first | rfl | (simp; done) | (simp [*]; done) | (simp; exact isEmpty_ne _)), H', ⟨by have := HJ14.out; first | omega | exact Nat.le_refl _⟩, ⟨by (with_reducible repeat (first | apply Kd.R_alloc | apply Kd.R_drewN | apply Kd.R_drew)); exact HO_10.out⟩, ⟨by (with_reducible repeat (first | apply Kd.R_alloc | apply Kd.R_drewN | apply Kd.R_drew)); exact HO_15.out⟩, ⟨by repeat (first | (with_reducible first | exact HB.out | apply below_alloc | apply pw_below_drewN | apply below_drew1) | exact HB.out)⟩⟩
     case rest => as_aux_lemma =>
      clear HC37
      try clear c2
      try clear p2
      try clear c4
      try clear c6
      try clear c7
      try clear c23
      try clear c41
      try clear c42
      try clear c43
      try clear c44
      try clear c68
      try clear c71
      obtain ⟨kq, x163_36, rfl, HA, HJ36, HO_10, HO_15, HB⟩ := hcut
      cases kq with
      | zero => exact absurd HA.out (by simp [letterlocklaw10_TreeProves.j1])
      | succ kj36 =>
       have H := HA.out
       clear HA
       simp only [letterlocklaw10_TreeProves.j1] at H
       by_cases c81 : x163_36 = true
       ·subst c81
        have H1 : (none) = some r := by rw [if_pos rfl] at H; exact H
        clear H
        have H := H1
        clear H1
        exact absurd H (by simp)
       ·replace c81 := Bool.eq_false_iff.mpr c81
        subst c81
        have H1 : (if (t227.length : Int) = 1 then (if 0 < (t227.length : Int) then ((tree_Verify.f kj36 t231 2 0 (rdOf ByteArray.empty t227 0) (([t231] : List ByteArray))).bind fun t268 => (if t268 = true then (none) else ((tree_Verify.f kj36 t231 1 0 (rdOf ByteArray.empty t227 0) (([t231] : List ByteArray))).bind fun t273 => (some (!t273))))) else (none)) else ((letterlocklaw10_pick.f a3 (t233.length : Int)).bind fun t274 => ((some (([] : List ByteArray) : List ByteArray)).bind fun y275 => (if y275.length + t233.length < 8796093022208 then ((some (y275 ++ t233 : List ByteArray)).bind fun y278 => (if 0 ≤ t274 then (if t274 < (y278.length : Int) then (if 1 + (rdOf ByteArray.empty y278 t274).size ≤ 9223372036854775807 then (some true) else (none)) else (none)) else (none))) else (none))))) = some r := by rw [if_neg (show ¬ (false = true) by decide)] at H; exact H
        clear H
        have H := H1
        clear H1
        by_cases c82 : (t227.length : Int) = 1
        ·rw [if_pos c82] at H
         have c82b0 : ((t227.length : Int) == 1) = true := beq_iff_eq.mpr c82
         have c82b1 : ((t227.length : Int) != 1) = false := bne_eq_false_iff_eq.mpr c82
         clear c82
         by_cases c83 : 0 < (t227.length : Int)
         rotate_left
         ·rw [if_neg c83] at H
          exact absurd H (by simp)
         rw [if_pos c83] at H
         have c83b0 : decide (0 < (t227.length : Int)) = true := decide_eq_true c83
         have c83b1 : decide (0 < t227.length) = true := decide_eq_true (by omega)
         clear c83
         obtain ⟨y265, hy265⟩ : ∃ y_ : List ByteArray, y_ = (([t231] : List ByteArray)) := ⟨_, rfl⟩
         replace H : ((tree_Verify.f kj36 t231 2 0 (rdOf ByteArray.empty t227 0) y265).bind fun t268 => (if t268 = true then (none) else ((tree_Verify.f kj36 t231 1 0 (rdOf ByteArray.empty t227 0) (([t231] : List ByteArray))).bind fun t273 => (some (!t273))))) = some r := by first | (rw [hy265]; with_reducible exact H) | (have H2_ := (Option.bind_some _ _).symm.trans H; rw [hy265]; with_reducible exact H2_) | (have H2_ := (Option.bind_some _ _).symm.trans H; with_reducible exact H2_) | with_reducible exact H | (rw [hy265]; exact H) | exact H
         have Ny265 := Aside0.mk hy265
         clear hy265
         replace H := Option.bind_eq_some_iff.mp H
         obtain ⟨t268, A840, H⟩ := H
         replace H : (if t268 = true then (none) else ((tree_Verify.f kj36 t231 1 0 (rdOf ByteArray.empty t227 0) (([t231] : List ByteArray))).bind fun t273 => (some (!t273)))) = some r := H
         have A84 := Aside0.mk A840
         clear A840
         by_cases c85 : t268 = true
         ·subst c85
          have H1 : (none) = some r := by rw [if_pos rfl] at H; exact H
          clear H
          have H := H1
          clear H1
          exact absurd H (by simp)
         ·replace c85 := Bool.eq_false_iff.mpr c85
          subst c85
          have H1 : ((tree_Verify.f kj36 t231 1 0 (rdOf ByteArray.empty t227 0) (([t231] : List ByteArray))).bind fun t273 => (some (!t273))) = some r := by rw [if_neg (show ¬ (false = true) by decide)] at H; exact H
          clear H
          have H := H1
          clear H1
          obtain ⟨y270, hy270⟩ : ∃ y_ : List ByteArray, y_ = (([t231] : List ByteArray)) := ⟨_, rfl⟩
          replace H : ((tree_Verify.f kj36 t231 1 0 (rdOf ByteArray.empty t227 0) y270).bind fun t273 => (some (!t273))) = some r := by first | (rw [hy270]; with_reducible exact H) | (have H2_ := (Option.bind_some _ _).symm.trans H; rw [hy270]; with_reducible exact H2_) | (have H2_ := (Option.bind_some _ _).symm.trans H; with_reducible exact H2_) | with_reducible exact H | (rw [hy270]; exact H) | exact H
          have Ny270 := Aside0.mk hy270
          clear hy270
          replace H := Option.bind_eq_some_iff.mp H
          obtain ⟨t273, A860, H⟩ := H
          replace H : (some (!t273)) = some r := H
          have A86 := Aside0.mk A860
          clear A860
          obtain rfl := Option.some.inj H
          have p264 : 0 ≤ (0 : Int) := (by omega)
          have q264 : 0 < (t227.length : Int) := of_decide_eq_true (by first | (with_reducible assumption) | assumption)
          obtain ⟨ad264, e264, hx264_0⟩ := Kd.at_string (Kd.R_reads' HO_10.out).2.2 0 p264 q264
          cases e264
          have qi264 : (0 < t227.length) = True := eq_true (by omega)
          (try rw [show ((0 : Int)).toNat = 0 from rfl] at hx264_0)
          (try rw [Addr.add_zero'] at hx264_0)
          replace p264 := eq_true p264
          replace q264 := eq_true q264
          go_wp2_with (first | ((with_reducible refine gate_dst (N := 171) rfl ?_); refine Kd.R_lit Kd.string _ 9 ?hg (N := 171) ?hd (xs := ([t231] : List ByteArray)) (inner := [.string t231]) (ok := fun _ => True) (okp := fun _ => True) ?hr ?hp (fun _ hk => hk) trivial (Below.refl _ _) (Nat.le_refl _) (by simp) ?_; (case hd => rfl); (case hg => rfl); (case hr => first | (go_simp; done) | (go_simp; rfl)); (case hp => exact (Reps.one (show Kd.M Kd.string _ _ _ t231 [.string t231] from rfl) (Reps.none _ _))); intro v266 w87 ho88 hb hg_ hnew_; clear hg_ hnew_; (first | rw [← Ny265.out] at ho88 | (simp only [Int.reduceToNat] at ho88; rw [← Ny265.out] at ho88)); have n0_ := Aside0.mk (Kd.R_elder' (by (with_reducible repeat (first | apply Kd.R_alloc | apply Kd.R_drewN | apply Kd.R_drew)); exact HO_10.out) (Kd.R_base ho88) hb); have n1_ := Aside0.mk (Kd.R_elder' (by (with_reducible repeat (first | apply Kd.R_alloc | apply Kd.R_drewN | apply Kd.R_drew)); exact HO_15.out) (Kd.R_base ho88) hb); have n2_ := Aside0.mk (Kd.R_lower (Kd.R_new' (Kd.R_new' ho88 (Kd.R_lt (by (with_reducible repeat (first | apply Kd.R_alloc | apply Kd.R_drewN | apply Kd.R_drew)); exact HO_10.out))) (Kd.R_lt (by (with_reducible repeat (first | apply Kd.R_alloc | apply Kd.R_drewN | apply Kd.R_drew)); exact HO_15.out))) (below_size (by repeat (first | (with_reducible first | exact HB.out | apply below_alloc | apply pw_below_drewN | apply below_drew1) | exact HB.out)))); have n3_ := Aside0.mk (below_step (by repeat (first | (with_reducible first | exact HB.out | apply below_alloc | apply pw_below_drewN | apply below_drew1) | exact HB.out)) hb); clear HO_10; clear HO_15; clear HB; have HO_10 := n0_; have HO_15 := n1_; have HO267 := n2_; have HB := n3_; clear n0_ n1_ n2_ n3_; clear hb ho88; obtain ⟨Ao89, co89, eo89⟩ := Kd.R_slice HO267.out; subst eo89) | ((with_reducible refine gate_callee (f := 23) rfl ?_); refine goesL_ (some 172) rfl rfl Try.func23 (by kernel_rfl) rfl #[.string t231, .int .i64 2, .int .i64 0, .string (rdOf ByteArray.empty t227 0), .slice Ao89 y265.length co89] rfl (by (try simp only [List.map_toArray, List.map_cons, List.map_nil]); first | done | rfl | (simp only [List.length_drop, List.length_take]; rfl)) ?_; (with_reducible refine (tree_Verify.calls kj36 t231 2 0 (rdOf ByteArray.empty t227 0) _ _ y265 false _ ?side1 ?side2 A84.out).mono ?_); (case side1 => repeat (first | exact (Kd.R_reads' HO267.out).2.2 | (with_reducible refine Kd.C_alloc ?_ _) | (with_reducible refine Kd.C_drewN ?_ _) | (with_reducible refine Kd.C_drew ?_))); (case side2 => exact (Kd.R_reads' HO267.out).2.1); rintro e w90 ⟨rfl, hb⟩; refine ⟨_, rfl, ?_⟩; have n0_ := Aside0.mk (Kd.R_below (by (with_reducible repeat (first | apply Kd.R_alloc | apply Kd.R_drewN | apply Kd.R_drew)); exact HO_10.out) hb); have n1_ := Aside0.mk (Kd.R_below (by (with_reducible repeat (first | apply Kd.R_alloc | apply Kd.R_drewN | apply Kd.R_drew)); exact HO_15.out) hb); have n2_ := Aside0.mk (Kd.R_below (by (with_reducible repeat (first | apply Kd.R_alloc | apply Kd.R_drewN | apply Kd.R_drew)); exact HO267.out) hb); have n3_ := Aside0.mk (below_step (by repeat (first | (with_reducible first | exact HB.out | apply below_alloc | apply pw_below_drewN | apply below_drew1) | exact HB.out)) hb); clear HO_10; clear HO_15; clear HO267; clear HB; have HO_10 := n0_; have HO_15 := n1_; have HO267 := n2_; have HB := n3_; clear n0_ n1_ n2_ n3_; (try clear hb); (try clear hb2); (try clear hk); (try clear hi); have p269 : 0 ≤ (0 : Int) := (by omega); have q269 : 0 < (t227.length : Int) := of_decide_eq_true (by first | (with_reducible assumption) | assumption); obtain ⟨ad269, e269, hx269_0⟩ := Kd.at_string (Kd.R_reads' HO_10.out).2.2 0 p269 q269; obtain rfl : ad264 = ad269 := (by injection e269); have qi269 : (0 < t227.length) = True := eq_true (by omega); (try rw [show ((0 : Int)).toNat = 0 from rfl] at hx269_0); (try rw [Addr.add_zero'] at hx269_0); replace p269 := eq_true p269; replace q269 := eq_true q269) | ((with_reducible refine gate_dst (N := 180) rfl ?_); refine Kd.R_lit Kd.string _ 9 ?hg (N := 180) ?hd (xs := ([t231] : List ByteArray)) (inner := [.string t231]) (ok := fun _ => True) (okp := fun _ => True) ?hr ?hp (fun _ hk => hk) trivial (Below.refl _ _) (Nat.le_refl _) (by simp) ?_; (case hd => rfl); (case hg => rfl); (case hr => first | (go_simp; done) | (go_simp; rfl)); (case hp => exact (Reps.one (show Kd.M Kd.string _ _ _ t231 [.string t231] from rfl) (Reps.none _ _))); intro v271 w91 ho92 hb hg_ hnew_; clear hg_ hnew_; (first | rw [← Ny270.out] at ho92 | (simp only [Int.reduceToNat] at ho92; rw [← Ny270.out] at ho92)); have n0_ := Aside0.mk (Kd.R_elder' (by (with_reducible repeat (first | apply Kd.R_alloc | apply Kd.R_drewN | apply Kd.R_drew)); exact HO_10.out) (Kd.R_base ho92) hb); have n1_ := Aside0.mk (Kd.R_elder' (by (with_reducible repeat (first | apply Kd.R_alloc | apply Kd.R_drewN | apply Kd.R_drew)); exact HO_15.out) (Kd.R_base ho92) hb); have n2_ := Aside0.mk (Kd.R_elder' (by (with_reducible repeat (first | apply Kd.R_alloc | apply Kd.R_drewN | apply Kd.R_drew)); exact HO267.out) (Kd.R_base ho92) hb); have n3_ := Aside0.mk (Kd.R_lower (Kd.R_new' (Kd.R_new' (Kd.R_new' ho92 (Kd.R_lt (by (with_reducible repeat (first | apply Kd.R_alloc | apply Kd.R_drewN | apply Kd.R_drew)); exact HO_10.out))) (Kd.R_lt (by (with_reducible repeat (first | apply Kd.R_alloc | apply Kd.R_drewN | apply Kd.R_drew)); exact HO_15.out))) (Kd.R_lt (by (with_reducible repeat (first | apply Kd.R_alloc | apply Kd.R_drewN | apply Kd.R_drew)); exact HO267.out))) (below_size (by repeat (first | (with_reducible first | exact HB.out | apply below_alloc | apply pw_below_drewN | apply below_drew1) | exact HB.out)))); have n4_ := Aside0.mk (below_step (by repeat (first | (with_reducible first | exact HB.out | apply below_alloc | apply pw_below_drewN | apply below_drew1) | exact HB.out)) hb); clear HO_10; clear HO_15; clear HO267; clear HB; have HO_10 := n0_; have HO_15 := n1_; have HO267 := n2_; have HO272 := n3_; have HB := n4_; clear n0_ n1_ n2_ n3_ n4_; clear hb ho92; obtain ⟨Ao93, co93, eo93⟩ := Kd.R_slice HO272.out; subst eo93) | (go_at_call 23; (with_reducible refine (tree_Verify.calls kj36 t231 1 0 (rdOf ByteArray.empty t227 0) _ _ y270 t273 _ ?side1 ?side2 A86.out).mono ?_); (case side1 => repeat (first | exact (Kd.R_reads' HO272.out).2.2 | (with_reducible refine Kd.C_alloc ?_ _) | (with_reducible refine Kd.C_drewN ?_ _) | (with_reducible refine Kd.C_drew ?_))); (case side2 => exact (Kd.R_reads' HO272.out).2.1); rintro e w94 ⟨rfl, hb⟩; have n0_ := Aside0.mk (Kd.R_below (by (with_reducible repeat (first | apply Kd.R_alloc | apply Kd.R_drewN | apply Kd.R_drew)); exact HO_10.out) hb); have n1_ := Aside0.mk (Kd.R_below (by (with_reducible repeat (first | apply Kd.R_alloc | apply Kd.R_drewN | apply Kd.R_drew)); exact HO_15.out) hb); have n2_ := Aside0.mk (Kd.R_below (by (with_reducible repeat (first | apply Kd.R_alloc | apply Kd.R_drewN | apply Kd.R_drew)); exact HO267.out) hb); have n3_ := Aside0.mk (Kd.R_below (by (with_reducible repeat (first | apply Kd.R_alloc | apply Kd.R_drewN | apply Kd.R_drew)); exact HO272.out) hb); have n4_ := Aside0.mk (below_step (by repeat (first | (with_reducible first | exact HB.out | apply below_alloc | apply pw_below_drewN | apply below_drew1) | exact HB.out)) hb); clear HO_10; clear HO_15; clear HO267; clear HO272; clear HB; have HO_10 := n0_; have HO_15 := n1_; have HO267 := n2_; have HO272 := n3_; have HB := n4_; clear n0_ n1_ n2_ n3_ n4_; (try clear hb); (try clear hb2); (try clear hk); (try clear hi)))
          refine (tree_Verify.calls kj36 t231 1 0 (rdOf ByteArray.empty t227 0) (some ⟨w90.heap.size, 0, none⟩) 1 [t231] t273 _ (lit_C _ _) (by simp) (by rw [← Ny270.out]; exact A86.out)).mono ?_
          rintro e w91 ⟨rfl, hb⟩
          go_wp2_with (fail)
          go_ret
          exact ⟨rfl, below_step (below_alloc HB.out _) hb⟩
        ·rw [if_neg c82] at H
         have c82b0 : ((t227.length : Int) == 1) = false := beq_eq_false_iff_ne.mpr c82
         have c82b1 : ((t227.length : Int) != 1) = true := bne_iff_ne.mpr c82
         replace H := Option.bind_eq_some_iff.mp H
         obtain ⟨t274, A950, H⟩ := H
         replace H : ((some (([] : List ByteArray) : List ByteArray)).bind fun y275 => (if y275.length + t233.length < 8796093022208 then ((some (y275 ++ t233 : List ByteArray)).bind fun y278 => (if 0 ≤ t274 then (if t274 < (y278.length : Int) then (if 1 + (rdOf ByteArray.empty y278 t274).size ≤ 9223372036854775807 then (some true) else (none)) else (none)) else (none))) else (none))) = some r := H
         have A95 := Aside0.mk A950
         clear A950
         obtain ⟨y275, hy275⟩ : ∃ y_ : List ByteArray, y_ = (([] : List ByteArray)) := ⟨_, rfl⟩
         replace H : (if y275.length + t233.length < 8796093022208 then ((some (y275 ++ t233 : List ByteArray)).bind fun y278 => (if 0 ≤ t274 then (if t274 < (y278.length : Int) then (if 1 + (rdOf ByteArray.empty y278 t274).size ≤ 9223372036854775807 then (some true) else (none)) else (none)) else (none))) else (none)) = some r := by first | (rw [hy275]; with_reducible exact H) | (have H2_ := (Option.bind_some _ _).symm.trans H; rw [hy275]; with_reducible exact H2_) | (have H2_ := (Option.bind_some _ _).symm.trans H; with_reducible exact H2_) | with_reducible exact H | (rw [hy275]; exact H) | exact H
         have Ny275 := Aside0.mk hy275
         clear hy275
         by_cases c96 : y275.length + t233.length < 8796093022208
         rotate_left
         ·rw [if_neg c96] at H
          exact absurd H (by simp)
         rw [if_pos c96] at H
         have LMc96 := Aside0.mk c96
         clear c96
         obtain ⟨y278, hy278⟩ : ∃ y_ : List ByteArray, y_ = (y275 ++ t233) := ⟨_, rfl⟩
         replace H : (if 0 ≤ t274 then (if t274 < (y278.length : Int) then (if 1 + (rdOf ByteArray.empty y278 t274).size ≤ 9223372036854775807 then (some true) else (none)) else (none)) else (none)) = some r := by first | (rw [hy278]; with_reducible exact H) | (have H2_ := (Option.bind_some _ _).symm.trans H; rw [hy278]; with_reducible exact H2_) | (have H2_ := (Option.bind_some _ _).symm.trans H; with_reducible exact H2_) | with_reducible exact H | (rw [hy278]; exact H) | exact H
         have Ny278 := Aside0.mk hy278
         clear hy278
         by_cases c97 : 0 ≤ t274
         rotate_left
         ·rw [if_neg c97] at H
          exact absurd H (by simp)
         rw [if_pos c97] at H
         have c97b0 : decide (0 ≤ t274) = true := decide_eq_true c97
         clear c97
         by_cases c98 : t274 < (y278.length : Int)
         rotate_left
         ·rw [if_neg c98] at H
          exact absurd H (by simp)
         rw [if_pos c98] at H
         have c98b0 : decide (t274 < (y278.length : Int)) = true := decide_eq_true c98
         clear c98
         by_cases c99 : 1 + (rdOf ByteArray.empty y278 t274).size ≤ 9223372036854775807
         rotate_left
         ·rw [if_neg c99] at H
          exact absurd H (by simp)
         rw [if_pos c99] at H
         have c99b0 := eq_true c99
         have c99b1 : decide (1 + (rdOf ByteArray.empty y278 t274).size ≤ 9223372036854775807) = true := decide_eq_true c99
         try have c99b2 : (9223372036854775807 < 1 + (rdOf ByteArray.empty y278 t274).size) = False := eq_false (Nat.not_lt.2 c99)
         (try (have c99b0n := c99b0; simp only [ByteArray.size_append, ByteArray.size_extract, Nat.min_self, size_lit1, Int.natCast_add, Int.natCast_one] at c99b0n))
         (try (have c99b1n := c99b1; simp only [ByteArray.size_append, ByteArray.size_extract, Nat.min_self, size_lit1, Int.natCast_add, Int.natCast_one] at c99b1n))
         (try (have c99b2n := c99b2; simp only [ByteArray.size_append, ByteArray.size_extract, Nat.min_self, size_lit1, Int.natCast_add, Int.natCast_one] at c99b2n))
         obtain ⟨y282, hy282⟩ : ∃ y_ : List ByteArray, y_ = (y278.set (t274 : Int).toNat ((⟨#[104]⟩ : ByteArray) ++ (rdOf ByteArray.empty y278 t274))) := ⟨_, rfl⟩
         replace H : (some true) = some r := by first | (rw [hy282]; with_reducible exact H) | (have H2_ := (Option.bind_some _ _).symm.trans H; rw [hy282]; with_reducible exact H2_) | (have H2_ := (Option.bind_some _ _).symm.trans H; with_reducible exact H2_) | with_reducible exact H | (rw [hy282]; exact H) | exact H
         have Ny282 := Aside0.mk hy282
         clear hy282
         obtain rfl := Option.some.inj H
         obtain ⟨Ao101, co101, eo101⟩ := Kd.R_slice HO_15.out
         subst eo101
         go_wp2_with (first | ((with_reducible refine gate_callee (f := 13) rfl ?_); refine goesL_ (some 187) rfl rfl Try.func13 (by kernel_rfl) rfl #[.int .i64 a3, .int .i64 (t233.length : Int)] rfl (by (try simp only [List.map_toArray, List.map_cons, List.map_nil]); first | done | rfl | (simp only [List.length_drop, List.length_take]; rfl)) ?_; (with_reducible refine (letterlocklaw10_pick.calls a3 (t233.length : Int) t274 _ A95.out).mono ?_); rintro e w' ⟨rfl, ⟨nd, rfl⟩⟩; refine ⟨_, rfl, ?_⟩; (try (rw [drewN_self wc]; generalize hq_ : World.drewN wc _ = wc; have n0_ : Aside0 (Kd.R Kd.string 9 wc w.heap.size (fun k_ => some k_ ≠ (.slice Ao101 t233.length co101 : Value).ownBlock) (.slice Ao18 t227.length co18) t227) := ⟨by rw [← hq_]; exact (by (with_reducible repeat (first | apply Kd.R_alloc | apply Kd.R_drewN | apply Kd.R_drew)); exact HO_10.out)⟩; have n1_ : Aside0 (Kd.R Kd.string 9 wc w.heap.size (fun k_ => some k_ ≠ (.slice Ao18 t227.length co18 : Value).ownBlock) (.slice Ao101 t233.length co101) t233) := ⟨by rw [← hq_]; exact (by (with_reducible repeat (first | apply Kd.R_alloc | apply Kd.R_drewN | apply Kd.R_drew)); exact HO_15.out)⟩; have n2_ : Aside0 (Below w.heap.size w wc) := ⟨by rw [← hq_]; exact (by repeat (first | (with_reducible first | exact HB.out | apply below_alloc | apply pw_below_drewN | apply below_drew1) | exact HB.out))⟩; clear HO_10 HO_15 HB hq_; have HO_10 := n0_; have HO_15 := n1_; have HB := n2_; clear n0_ n1_ n2_))) | ((with_reducible refine gate_dst (N := 188) rfl ?_); refine Kd.R_lit Kd.string _ 9 ?hg (N := 188) ?hd (xs := ([] : List ByteArray)) (inner := []) (ok := fun _ => True) (okp := fun _ => True) ?hr ?hp (fun _ hk => hk) trivial (Below.refl _ _) (Nat.le_refl _) (by simp) ?_; (case hd => rfl); (case hg => rfl); (case hr => first | (go_simp; done) | (go_simp; rfl)); (case hp => exact (Reps.none _ _)); intro v276 w102 ho103 hb hg_ hnew_; clear hg_ hnew_; (first | rw [← Ny275.out] at ho103 | (simp only [Int.reduceToNat] at ho103; rw [← Ny275.out] at ho103)); have n0_ := Aside0.mk (Kd.R_elder' (by (with_reducible repeat (first | apply Kd.R_alloc | apply Kd.R_drewN | apply Kd.R_drew)); exact HO_10.out) (Kd.R_base ho103) hb); have n1_ := Aside0.mk (Kd.R_elder' (by (with_reducible repeat (first | apply Kd.R_alloc | apply Kd.R_drewN | apply Kd.R_drew)); exact HO_15.out) (Kd.R_base ho103) hb); have n2_ := Aside0.mk (Kd.R_lower (Kd.R_new' (Kd.R_new' ho103 (Kd.R_lt (by (with_reducible repeat (first | apply Kd.R_alloc | apply Kd.R_drewN | apply Kd.R_drew)); exact HO_10.out))) (Kd.R_lt (by (with_reducible repeat (first | apply Kd.R_alloc | apply Kd.R_drewN | apply Kd.R_drew)); exact HO_15.out))) (below_size (by repeat (first | (with_reducible first | exact HB.out | apply below_alloc | apply pw_below_drewN | apply below_drew1) | exact HB.out)))); have n3_ := Aside0.mk (below_step (by repeat (first | (with_reducible first | exact HB.out | apply below_alloc | apply pw_below_drewN | apply below_drew1) | exact HB.out)) hb); clear HO_10; clear HO_15; clear HB; have HO_10 := n0_; have HO_15 := n1_; have HO277 := n2_; have HB := n3_; clear n0_ n1_ n2_ n3_; clear hb ho103) | ((with_reducible refine gate_builtin (b := .append) (xs := #[.tmp 188, .tmp 189]) rfl ?_); at_builtin; refine Kd.R_append_rows Kd.string (w0 := w) w.heap.size rfl (.tmp 188) (.tmp 189) 24 9 (.string ⟨#[]⟩) 16 rfl Try.underlying24 info9 rfl (by decide) (by omega) v276 y275 t233 _ _ _ (fun k_ => some k_ ≠ (.slice Ao18 t227.length co18 : Value).ownBlock ∧ some k_ ≠ (.slice Ao101 t233.length co101 : Value).ownBlock) (fun _ => False) rfl rfl ?aO ?aR (fun _ _ h => h) (fun _ h => h.elim) ?aF ?aB ?aS ?aL ?_; (case aR => repeat (first | exact (Kd.R_reads' HO_15.out).2.2 | (with_reducible refine Kd.C_alloc ?_ _) | (with_reducible refine Kd.C_drewN ?_ _) | (with_reducible refine Kd.C_drew ?_))); (case aB => exact (by repeat (first | (with_reducible first | exact HB.out | apply below_alloc | apply pw_below_drewN | apply below_drew1) | exact HB.out))); (case aF => exact (fun k_ hk => ⟨Kd.fresh' (Kd.R_lt (by (with_reducible repeat (first | apply Kd.R_alloc | apply Kd.R_drewN | apply Kd.R_drew)); exact HO_10.out)) k_ hk, Kd.fresh' (Kd.R_lt (by (with_reducible repeat (first | apply Kd.R_alloc | apply Kd.R_drewN | apply Kd.R_drew)); exact HO_15.out)) k_ hk⟩)); (case aO => exact (by (with_reducible repeat (first | apply Kd.R_alloc | apply Kd.R_drewN | apply Kd.R_drew)); exact Kd.R_mono HO277.out (fun _ hk => ⟨hk.1.2, hk.2⟩))); (case aS => exact (below_size (by repeat (first | (with_reducible first | exact HB.out | apply below_alloc | apply pw_below_drewN | apply below_drew1) | exact HB.out)))); (case aL => have := LMc96.out; omega); intro v279 w104 ho hb hg hat; rw [← Ny278.out] at ho; have n0_ := Aside0.mk (Kd.R_after (ok := (fun k_ => some k_ ≠ (.slice Ao101 t233.length co101 : Value).ownBlock)) (by (with_reducible repeat (first | apply Kd.R_alloc | apply Kd.R_drewN | apply Kd.R_drew)); exact HO_10.out) hg hat); have n1_ := Aside0.mk (Kd.R_after (ok := (fun k_ => some k_ ≠ (.slice Ao18 t227.length co18 : Value).ownBlock)) (by (with_reducible repeat (first | apply Kd.R_alloc | apply Kd.R_drewN | apply Kd.R_drew)); exact HO_15.out) hg hat); have n2_ := Aside0.mk (hb); have n3_ := Aside0.mk (ho); clear HO_10; clear HO_15; clear HB; clear HO277; have HO_10 := n0_; have HO_15 := n1_; have HB := n2_; have HO280 := n3_; clear n0_ n1_ n2_ n3_; clear ho hb hg hat; obtain ⟨Ao105, co105, eo105⟩ := Kd.R_slice HO280.out; subst eo105; have p281 : 0 ≤ (t274 : Int) := of_decide_eq_true (by first | (with_reducible assumption) | assumption); have q281 : t274 < (y278.length : Int) := of_decide_eq_true (by first | (with_reducible assumption) | assumption); obtain ⟨ad281, e281, hx281_0⟩ := Kd.at_string (Kd.R_reads' HO280.out).2.2 t274 p281 q281; cases e281; replace p281 := eq_true p281; replace q281 := eq_true q281; have p100 : 0 ≤ (t274 : Int) := of_decide_eq_true (by first | (with_reducible assumption) | assumption); have q100 : (t274 : Int) < ((y278.length : Int) : Int) := of_decide_eq_true (by first | (with_reducible assumption) | assumption); obtain ⟨go100, co100, eo100, gb100, gl100, cl100, HG100⟩ := Kd.R_form HO280.out (by omega); (first | cases eo100 | (injection eo100 with ea_ en_ ec_; (first | subst ea_ | (injection ea_ with ea_; subst ea_)); subst ec_; clear en_)); have GB100 := Aside0.mk gb100; have GG100 := Aside0.mk HG100; clear gb100 gl100 HG100; (first | simp only [add_plain] at hx281_0 | skip); obtain ⟨hx100_0, hf100_0⟩ := Kd.R_celln (⟨#[]⟩ : ByteArray) HO280.out (t274 : Int) p100 q100; replace p100 := eq_true p100; replace q100 := eq_true q100; obtain ⟨hy106_, hz106_⟩ := Kd.R_celln (⟨#[]⟩ : ByteArray) HO280.out (t274 : Int) (of_decide_eq_true (by first | (with_reducible assumption) | assumption)) (of_decide_eq_true (by first | (with_reducible assumption) | assumption)); have HP106 := Kd.R_putg HO280.out (t274 : Int) ((⟨#[104]⟩ : ByteArray) ++ (rdOf ByteArray.empty y278 t274))) | ((with_reducible refine gate_store (t := 9) (p := 198) rfl ?_); refine store_event (t := 9) (p := 198) (v := ?vo_w107) (w1 := (w104.setCell ⟨go100, (t274 : Int).toNat, none⟩ (.string ((⟨#[104]⟩ : ByteArray) ++ (rdOf ByteArray.empty y278 t274))))) ?hg ?ho ?hn ?hr ?_; (case ho => rfl); (case hg => rfl); (case hn => rfl); (case hr => first | (go_simp; done) | (go_simp; rfl)); intro w107 hw; have hg : w104.grownBy w107 (some go100) := (by rw [hw]; exact HP106.2); have hp_ : Kd.R Kd.string 9 w107 w.heap.size (fun k_ => some k_ ≠ (.slice Ao18 t227.length co18 : Value).ownBlock ∧ some k_ ≠ (.slice Ao101 t233.length co101 : Value).ownBlock) (.slice (some ⟨go100, 0, none⟩) y278.length co105) y282 := (by rw [hw, Ny282.out]; exact HP106.1); clear HP106; have n0_ := Aside0.mk (Kd.R_after (v := (.slice (some ⟨go100, 0, none⟩) y278.length co105)) (v1 := (.slice (some ⟨go100, 0, none⟩) y278.length co105)) (ok := (fun k_ => some k_ ≠ (.slice Ao101 t233.length co101 : Value).ownBlock)) (by (with_reducible repeat (first | apply Kd.R_alloc | apply Kd.R_drewN | apply Kd.R_drew)); exact HO_10.out) hg (.inl rfl)); have n1_ := Aside0.mk (Kd.R_after (v := (.slice (some ⟨go100, 0, none⟩) y278.length co105)) (v1 := (.slice (some ⟨go100, 0, none⟩) y278.length co105)) (ok := (fun k_ => some k_ ≠ (.slice Ao18 t227.length co18 : Value).ownBlock)) (by (with_reducible repeat (first | apply Kd.R_alloc | apply Kd.R_drewN | apply Kd.R_drew)); exact HO_15.out) hg (.inl rfl)); have n2_ := Aside0.mk (hp_); have n3_ := Aside0.mk ((by rw [hw]; exact below_set (HB.out) GB100.out : Below w.heap.size w w107)); clear HO_10; clear HO_15; clear HO280; clear HB; have HO_10 := n0_; have HO_15 := n1_; have HO280 := n2_; have HB := n3_; clear n0_ n1_ n2_ n3_; clear hg hw hp_))
         have KN := HQ.out k t227 t233 t231 t232 t234 t230 t274 A6.out A13.out A12.out A14.out A95.out c82
         have hy : y278 = t233 := by rw [Ny278.out, Ny275.out]; rfl
         have hl : y278.length = y282.length := by rw [Ny282.out, List.length_set]
         have hq82 : y282 = t233.set t274.toNat ((⟨#[104]⟩ : ByteArray) ++ rdOf ByteArray.empty t233 t274) := by rw [Ny282.out, hy]
         obtain ⟨-, hcR, hCR⟩ := Kd.R_reads' HO_10.out
         obtain ⟨-, hcP, hCP⟩ := Kd.R_reads' HO_15.out
         obtain ⟨-, hcQ, hCQ⟩ := Kd.R_reads' HO280.out
         obtain ⟨adr, hAr, hcr⟩ := Kd.at_string hCR t230 KN.k0 KN.k1
         subst hAr
         obtain ⟨x, hx⟩ : ∃ x, x = rdOf ByteArray.empty t227 t230 := ⟨_, rfl⟩
         rw [← hx] at hcr
         have HCR := Aside0.mk hcr
         have kp1 : (1 : Int) ≤ (t233.length : Int) := by have := KN.p1; omega
         have kp3 : t233.length ≤ 3 := KN.p3
         obtain ⟨i010, hi010, _, hsz10, _⟩ := info_parts info9
         obtain ⟨A10, hcut10, hA10, hC10⟩ := print_drop_of (P := Try.prog) Value.string (⟨#[]⟩ : ByteArray) 24 9 .i64 Try.underlying24 hi010 hsz10 Ao101 co101 t233 1 (by omega) kp1 hcP
         have VC1 := Aside0.mk (fun (W : World) (hb : Below w107.heap.size w107 W) => show Calls Try.prog 23 #[.string t231, .int .i64 t227.length, .int .i64 t230, .string x, .slice (some ⟨go100, 0, none⟩) y278.length co105] W fun e w' => e = .returned (.bool false) ∧ Below W.heap.size W w' from by
          rw [hl]; exact VK t231 x _ t230 y282 false (by rw [hx, hq82]; exact KN.put) _ co105 W (Kd.C_below hCQ hb) (by rw [← hl]; exact hcQ))
         have VC2 := Aside0.mk (fun (W : World) (hb : Below w107.heap.size w107 W) => VK t231 x t227.length t230 (t233.drop 1) false (by rw [hx]; exact KN.less) A10 (co101 - 1) W (Kd.C_of_reads (h1 := fun _ => rfl) (hA10 _ (Kd.reads_of_C (Kd.C_below hCP hb)))) hC10)
         have VC3 := Aside0.mk (fun (W : World) (A : Option Addr) (c : Nat) (L : List ByteArray) (hL : L = ([] ++ t233) ++ [t231]) (hC : Kd.C Kd.string W A L.length L) (hc : L.length ≤ c) => VK t231 x t227.length t230 L false (by rw [hx, hL]; exact KN.more) A c W hC hc)
         have HCP := Aside0.mk hCP
         have kn0 := KN.k0
         have kn1 := KN.k1
         have kz0 : (0 ≤ t230) = True := eq_true kn0
         have kz1 : (t230 < (t227.length : Int)) = True := eq_true kn1
         clear KN hy hl hq82 hCR hCP hCQ hcr hx hcR hcP hcQ c97b0 c98b0 c99b0 c99b1 hx281_0 hx100_0 hf100_0 hy106_ hz106_ p100 q100 Ny282 Ny278 Ny275 HO_10 HO_15 HO280 GG100 GB100 LMc96 HQ hA10 hi010 hsz10
         refine start_ (n := 41) (S := fun w' => Aside0 (Below w107.heap.size w107 w')) (ds := []) (upto 41 0) (by kernel_rfl) rfl rfl (Aside0.mk (below_drew (Below.refl _ _))) (fun hHeld => ?_); refine with_tabW letterlocklaw10_TreeProves.tab20 letterlocklaw10_TreeProves.bits20 (fun HT_ HW_ => ?_)
         refine pure_ (i := 0) (N := some 199) (v := ?_) (a' := ?_) (upto 41 1) rfl rfl (any_of HT_.out (by kernel_rfl)) (fun _ _ _ h => h) (Or.inl ⟨by rfl, ?_⟩) ?_ ?_
         rotate_left
         ·intro w'
          go_simp
          with_reducible rfl
         rotate_left
         ·simp only [Act.put, aA, aB, aC, i64_w, i32_w]
          rfl
         refine pure_ (i := 1) (N := some 200) (v := ?_) (a' := ?_) (upto 41 2) rfl rfl (any_of HT_.out (by kernel_rfl)) (fun _ _ _ h => h) (Or.inl ⟨by rfl, ?_⟩) ?_ ?_
         rotate_left
         ·intro w'
          go_simp
          with_reducible rfl
         rotate_left
         ·simp only [Act.put, aA, aB, aC, i64_w, i32_w]
          rfl
         refine pure_ (i := 2) (N := some 201) (v := ?_) (a' := ?_) (upto 41 3) rfl rfl (any_of HT_.out (by kernel_rfl)) (fun _ _ _ h => h) (Or.inl ⟨by rfl, ?_⟩) ?_ ?_
         rotate_left
         ·intro w'
          go_simp
          with_reducible rfl
         rotate_left
         ·simp only [Act.put, aA, aB, aC, i64_w, i32_w]
          rfl
         refine pure_ (i := 3) (N := some 202) (v := ?_) (a' := ?_) (upto 41 4) rfl rfl (any_of HT_.out (by kernel_rfl)) (fun _ _ _ h => h) (Or.inl ⟨by rfl, ?_⟩) ?_ ?_
         rotate_left
         ·intro w'
          go_simp
          with_reducible rfl
         rotate_left
         ·simp only [Act.put, aA, aB, aC, i64_w, i32_w]
          rfl
         refine pure_ (i := 4) (N := some 203) (v := ?_) (a' := ?_) (upto 41 5) rfl rfl (any_of HT_.out (by kernel_rfl)) (fun _ _ _ h => h) (Or.inl ⟨by rfl, ?_⟩) ?_ ?_
         rotate_left
         ·intro w'
          go_simp
          with_reducible rfl
         rotate_left
         ·simp only [Act.put, aA, aB, aC, i64_w, i32_w]
          rfl
         refine pure_ (i := 5) (N := some 204) (v := ?_) (a' := ?_) (upto 41 6) rfl rfl (any_of HT_.out (by kernel_rfl)) (fun _ _ _ h => h) (Or.inl ⟨by rfl, ?_⟩) ?_ ?_
         rotate_left
         ·intro w'
          go_simp
          with_reducible rfl
         rotate_left
         ·simp only [Act.put, aA, aB, aC, i64_w, i32_w]
          rfl
         refine take_ (i := 6) (N := some 205) (v := ?_) (a' := ?_) (upto 41 7) rfl rfl (take_ofW HT_.out HW_.out (by kernel_rfl)) (fun _ _ _ h => h) (Or.inl ⟨by rfl, ?_⟩) hHeld ?_ ?_
         rotate_left
         ·intro w' s0
          have hl1 := cell_keep s0.out HCR.out
          clear s0
          go_simp
          with_reducible rfl
         rotate_left
         ·simp only [Act.put, aA, aB, aC, i64_w, i32_w]
          rfl
         refine pure_ (i := 7) (N := some 206) (v := ?_) (a' := ?_) (upto 41 8) rfl rfl (any_of HT_.out (by kernel_rfl)) (fun _ _ _ h => h) (Or.inl ⟨by rfl, ?_⟩) ?_ ?_
         rotate_left
         ·intro w'
          go_simp
          with_reducible rfl
         rotate_left
         ·simp only [Act.put, aA, aB, aC, i64_w, i32_w]
          rfl
         refine one_ (i := 8) (N := some 207) (upto 41 9) rfl rfl (one_of HT_.out (by kernel_rfl)) (by decide) (fun K hK => ?_)
         refine goes_ Try.func23 (by kernel_rfl) rfl #[.string t231, .int .i64 t227.length, .int .i64 t230, .string x, .slice (some ⟨go100, 0, none⟩) y278.length co105] (by rfl) rfl rfl (by (try simp only [List.map_toArray, List.map_cons, List.map_nil]); first | done | rfl | (simp only [List.length_drop, List.length_take]; rfl)) ?_
         refine (VC1.out _ hHeld.out).mono ?_
         rintro e u8 ⟨rfl, hb⟩
         refine ⟨_, rfl, ?_⟩
         have n0_ := Aside0.mk (below_step hHeld.out hb)
         clear hb hHeld
         refine hK.out _ _ n0_ (fun hHeld => ?_)
         clear hK K n0_
         refine norm_ (a' := ?_) ?_ ?_
         rotate_left
         ·show Act.put _ (some 207) _ = _
          simp only [Act.put, aA, aB, aC, i64_w, i32_w]
          rfl
         refine pure_ (i := 9) (N := some 208) (v := ?_) (a' := ?_) (upto 41 10) rfl rfl (any_of HT_.out (by kernel_rfl)) (fun _ _ _ h => h) (Or.inl ⟨by rfl, ?_⟩) ?_ ?_
         rotate_left
         ·intro w'
          go_simp
          with_reducible rfl
         rotate_left
         ·simp only [Act.put, aA, aB, aC, i64_w, i32_w]
          rfl
         refine pure_ (i := 10) (N := some 209) (v := ?_) (a' := ?_) (upto 41 11) rfl rfl (any_of HT_.out (by kernel_rfl)) (fun _ _ _ h => h) (Or.inl ⟨by rfl, ?_⟩) ?_ ?_
         rotate_left
         ·intro w'
          go_simp
          with_reducible rfl
         rotate_left
         ·simp only [Act.put, aA, aB, aC, i64_w, i32_w]
          rfl
         refine pure_ (i := 11) (N := some 210) (v := ?_) (a' := ?_) (upto 41 12) rfl rfl (any_of HT_.out (by kernel_rfl)) (fun _ _ _ h => h) (Or.inl ⟨by rfl, ?_⟩) ?_ ?_
         rotate_left
         ·intro w'
          go_simp
          with_reducible rfl
         rotate_left
         ·simp only [Act.put, aA, aB, aC, i64_w, i32_w]
          rfl
         refine pure_ (i := 12) (N := some 211) (v := ?_) (a' := ?_) (upto 41 13) rfl rfl (any_of HT_.out (by kernel_rfl)) (fun _ _ _ h => h) (Or.inl ⟨by rfl, ?_⟩) ?_ ?_
         rotate_left
         ·intro w'
          go_simp
          with_reducible rfl
         rotate_left
         ·simp only [Act.put, aA, aB, aC, i64_w, i32_w]
          rfl
         refine pure_ (i := 13) (N := some 212) (v := ?_) (a' := ?_) (upto 41 14) rfl rfl (any_of HT_.out (by kernel_rfl)) (fun _ _ _ h => h) (Or.inl ⟨by rfl, ?_⟩) ?_ ?_
         rotate_left
         ·intro w'
          go_simp
          with_reducible rfl
         rotate_left
         ·simp only [Act.put, aA, aB, aC, i64_w, i32_w]
          rfl
         refine pure_ (i := 14) (N := some 213) (v := ?_) (a' := ?_) (upto 41 15) rfl rfl (any_of HT_.out (by kernel_rfl)) (fun _ _ _ h => h) (Or.inl ⟨by rfl, ?_⟩) ?_ ?_
         rotate_left
         ·intro w'
          go_simp
          with_reducible rfl
         rotate_left
         ·simp only [Act.put, aA, aB, aC, i64_w, i32_w]
          rfl
         refine pure_ (i := 15) (N := some 214) (v := ?_) (a' := ?_) (upto 41 16) rfl rfl (any_of HT_.out (by kernel_rfl)) (fun _ _ _ h => h) (Or.inl ⟨by rfl, ?_⟩) ?_ ?_
         rotate_left
         ·intro w'
          go_simp
          with_reducible rfl
         rotate_left
         ·simp only [Act.put, aA, aB, aC, i64_w, i32_w]
          rfl
         refine pure_ (i := 16) (N := some 215) (v := ?_) (a' := ?_) (upto 41 17) rfl rfl (any_of HT_.out (by kernel_rfl)) (fun _ _ _ h => h) (Or.inl ⟨by rfl, ?_⟩) ?_ ?_
         rotate_left
         ·intro w'
          go_simp
          with_reducible rfl
         rotate_left
         ·simp only [Act.put, aA, aB, aC, i64_w, i32_w]
          rfl
         refine take_ (i := 17) (N := some 216) (v := ?_) (a' := ?_) (upto 41 18) rfl rfl (take_ofW HT_.out HW_.out (by kernel_rfl)) (fun _ _ _ h => h) (Or.inl ⟨by rfl, ?_⟩) hHeld ?_ ?_
         rotate_left
         ·intro w' s0
          have hl1 := cell_keep s0.out HCR.out
          clear s0
          go_simp
          with_reducible rfl
         rotate_left
         ·simp only [Act.put, aA, aB, aC, i64_w, i32_w]
          rfl
         refine pure_ (i := 18) (N := some 217) (v := ?_) (a' := ?_) (upto 41 19) rfl rfl (any_of HT_.out (by kernel_rfl)) (fun _ _ _ h => h) (Or.inl ⟨by rfl, ?_⟩) ?_ ?_
         rotate_left
         ·intro w'
          go_simp
          with_reducible rfl
         rotate_left
         ·simp only [Act.put, aA, aB, aC, i64_w, i32_w]
          rfl
         refine pure_ (i := 19) (N := some 218) (v := ?_) (a' := ?_) (upto 41 20) rfl rfl (any_of HT_.out (by kernel_rfl)) (fun _ _ _ h => h) (Or.inl ⟨by rfl, ?_⟩) ?_ ?_
         rotate_left
         ·intro w'
          go_simp
          with_reducible rfl
         rotate_left
         ·simp only [Act.put, aA, aB, aC, i64_w, i32_w]
          rfl
         refine one_ (i := 20) (N := some 219) (upto 41 21) rfl rfl (one_of HT_.out (by kernel_rfl)) (by decide) (fun K hK => ?_)
         refine goes_ Try.func23 (by kernel_rfl) rfl #[.string t231, .int .i64 t227.length, .int .i64 t230, .string x, .slice A10 (t233.drop 1).length (co101 - 1)] (by rfl) rfl rfl (by (try simp only [List.map_toArray, List.map_cons, List.map_nil]); first | done | rfl | (simp only [List.length_drop, List.length_take]; rfl)) ?_
         refine (VC2.out _ hHeld.out).mono ?_
         rintro e u20 ⟨rfl, hb⟩
         refine ⟨_, rfl, ?_⟩
         have n0_ := Aside0.mk (below_step hHeld.out hb)
         clear hb hHeld
         refine hK.out _ _ n0_ (fun hHeld => ?_)
         clear hK K n0_
         refine norm_ (a' := ?_) ?_ ?_
         rotate_left
         ·show Act.put _ (some 219) _ = _
          simp only [Act.put, aA, aB, aC, i64_w, i32_w]
          rfl
         refine pure_ (i := 21) (N := some 220) (v := ?_) (a' := ?_) (upto 41 22) rfl rfl (any_of HT_.out (by kernel_rfl)) (fun _ _ _ h => h) (Or.inl ⟨by rfl, ?_⟩) ?_ ?_
         rotate_left
         ·intro w'
          go_simp
          with_reducible rfl
         rotate_left
         ·simp only [Act.put, aA, aB, aC, i64_w, i32_w]
          rfl
         refine pure_ (i := 22) (N := some 221) (v := ?_) (a' := ?_) (upto 41 23) rfl rfl (any_of HT_.out (by kernel_rfl)) (fun _ _ _ h => h) (Or.inl ⟨by rfl, ?_⟩) ?_ ?_
         rotate_left
         ·intro w'
          go_simp
          with_reducible rfl
         rotate_left
         ·simp only [Act.put, aA, aB, aC, i64_w, i32_w]
          rfl
         refine pure_ (i := 23) (N := some 222) (v := ?_) (a' := ?_) (upto 41 24) rfl rfl (any_of HT_.out (by kernel_rfl)) (fun _ _ _ h => h) (Or.inl ⟨by rfl, ?_⟩) ?_ ?_
         rotate_left
         ·intro w'
          go_simp
          with_reducible rfl
         rotate_left
         ·simp only [Act.put, aA, aB, aC, i64_w, i32_w]
          rfl
         refine pure_ (i := 24) (N := some 223) (v := ?_) (a' := ?_) (upto 41 25) rfl rfl (any_of HT_.out (by kernel_rfl)) (fun _ _ _ h => h) (Or.inl ⟨by rfl, ?_⟩) ?_ ?_
         rotate_left
         ·intro w'
          go_simp
          with_reducible rfl
         rotate_left
         ·simp only [Act.put, aA, aB, aC, i64_w, i32_w]
          rfl
         refine pure_ (i := 25) (N := some 224) (v := ?_) (a' := ?_) (upto 41 26) rfl rfl (any_of HT_.out (by kernel_rfl)) (fun _ _ _ h => h) (Or.inl ⟨by rfl, ?_⟩) ?_ ?_
         rotate_left
         ·intro w'
          go_simp
          with_reducible rfl
         rotate_left
         ·simp only [Act.put, aA, aB, aC, i64_w, i32_w]
          rfl
         refine pure_ (i := 26) (N := some 225) (v := ?_) (a' := ?_) (upto 41 27) rfl rfl (any_of HT_.out (by kernel_rfl)) (fun _ _ _ h => h) (Or.inl ⟨by rfl, ?_⟩) ?_ ?_
         rotate_left
         ·intro w'
          go_simp
          with_reducible rfl
         rotate_left
         ·simp only [Act.put, aA, aB, aC, i64_w, i32_w]
          rfl
         refine pure_ (i := 27) (N := some 226) (v := ?_) (a' := ?_) (upto 41 28) rfl rfl (any_of HT_.out (by kernel_rfl)) (fun _ _ _ h => h) (Or.inl ⟨by rfl, ?_⟩) ?_ ?_
         rotate_left
         ·intro w'
          go_simp
          with_reducible rfl
         rotate_left
         ·simp only [Act.put, aA, aB, aC, i64_w, i32_w]
          rfl
         refine pure_ (i := 28) (N := some 227) (v := ?_) (a' := ?_) (upto 41 29) rfl rfl (any_of HT_.out (by kernel_rfl)) (fun _ _ _ h => h) (Or.inl ⟨by rfl, ?_⟩) ?_ ?_
         rotate_left
         ·intro w'
          go_simp
          with_reducible rfl
         rotate_left
         ·simp only [Act.put, aA, aB, aC, i64_w, i32_w]
          rfl
         refine pure_ (i := 29) (N := some 228) (v := ?_) (a' := ?_) (upto 41 30) rfl rfl (any_of HT_.out (by kernel_rfl)) (fun _ _ _ h => h) (Or.inl ⟨by rfl, ?_⟩) ?_ ?_
         rotate_left
         ·intro w'
          go_simp
          with_reducible rfl
         rotate_left
         ·simp only [Act.put, aA, aB, aC, i64_w, i32_w]
          rfl
         refine take_ (i := 30) (N := some 229) (v := ?_) (a' := ?_) (upto 41 31) rfl rfl (take_ofW HT_.out HW_.out (by kernel_rfl)) (fun _ _ _ h => h) (Or.inl ⟨by rfl, ?_⟩) hHeld ?_ ?_
         rotate_left
         ·intro w' s0
          have hl1 := cell_keep s0.out HCR.out
          clear s0
          go_simp
          with_reducible rfl
         rotate_left
         ·simp only [Act.put, aA, aB, aC, i64_w, i32_w]
          rfl
         refine pure_ (i := 32) (N := some 231) (v := ?_) (a' := ?_) #[T_,T_,T_,T_,T_,T_,T_,T_,T_,T_,T_,T_,T_,T_,T_,T_,T_,T_,T_,T_,T_,T_,T_,T_,T_,T_,T_,T_,T_,T_,T_,F_,T_,F_,F_,F_,F_,F_,F_,F_,F_] rfl rfl (any_of HT_.out (by kernel_rfl)) (fun _ _ _ h => h) (Or.inl ⟨by rfl, ?_⟩) ?_ ?_
         rotate_left
         ·intro w'
          go_simp
          with_reducible rfl
         rotate_left
         ·simp only [Act.put, aA, aB, aC, i64_w, i32_w]
          rfl
         refine pure_ (i := 34) (N := some 233) (v := ?_) (a' := ?_) #[T_,T_,T_,T_,T_,T_,T_,T_,T_,T_,T_,T_,T_,T_,T_,T_,T_,T_,T_,T_,T_,T_,T_,T_,T_,T_,T_,T_,T_,T_,T_,F_,T_,F_,T_,F_,F_,F_,F_,F_,F_] rfl rfl (any_of HT_.out (by kernel_rfl)) (fun _ _ _ h => h) (Or.inl ⟨by rfl, ?_⟩) ?_ ?_
         rotate_left
         ·intro w'
          go_simp
          with_reducible rfl
         rotate_left
         ·simp only [Act.put, aA, aB, aC, i64_w, i32_w]
          rfl
         refine two_ (i := 31) (j := 35) (Ni := some 230) (Nj := some 234) #[T_,T_,T_,T_,T_,T_,T_,T_,T_,T_,T_,T_,T_,T_,T_,T_,T_,T_,T_,T_,T_,T_,T_,T_,T_,T_,T_,T_,T_,T_,T_,T_,T_,F_,T_,F_,F_,F_,F_,F_,F_] #[T_,T_,T_,T_,T_,T_,T_,T_,T_,T_,T_,T_,T_,T_,T_,T_,T_,T_,T_,T_,T_,T_,T_,T_,T_,T_,T_,T_,T_,T_,T_,F_,T_,F_,T_,T_,F_,F_,F_,F_,F_] rfl rfl rfl rfl (two_of HT_.out (by kernel_rfl)) (by decide) (by decide) (fun K hK => ?_) (fun K hK => ?_)
         ·refine Kd.R_lit_step Kd.string (w0 := w107) w107.heap.size 9 (by rfl) (N := 230) rfl (xs := ([] : List ByteArray)) (inner := []) (ok := (fun _ => True)) (okp := (fun _ => True)) (by first | (go_simp; done) | (go_simp; rfl)) (Reps.none _ _) (fun _ hk => hk) trivial hHeld.out hHeld.out.size (by simp) ?_
          intro v31 u3 r31 b31 g31 n31
          clear hHeld
          refine hK.out _ _ (Aside0.mk b31) (fun hHeld => ?_)
          clear hK K b31
          refine norm_ (a' := ?_) ?_ ?_
          rotate_left
          ·show Act.put _ (some 230) _ = _
           simp only [Act.put, aA, aB, aC, i64_w, i32_w]
           rfl
          refine two_ (i := 33) (j := 35) (Ni := some 232) (Nj := some 234) (upto 41 35) #[T_,T_,T_,T_,T_,T_,T_,T_,T_,T_,T_,T_,T_,T_,T_,T_,T_,T_,T_,T_,T_,T_,T_,T_,T_,T_,T_,T_,T_,T_,T_,T_,T_,F_,T_,T_,F_,F_,F_,F_,F_] rfl rfl rfl rfl (two_of HT_.out (by kernel_rfl)) (by decide) (by decide) (fun K hK => ?_) (fun K hK => ?_)
          ·refine Kd.R_append_rows_step Kd.string (w0 := w107) w107.heap.size (by rfl) (.tmp 230) (.tmp 231) 24 9 (.string ⟨#[]⟩) 16 rfl Try.underlying24 info9 rfl (by decide) (by omega) v31 ([]) (t233) _ _ _ (fun _ => True) (fun _ => False) rfl rfl r31 (Kd.C_below HCP.out hHeld.out) (fun _ _ h => h) (fun _ h => h.elim) (fun _ _ => trivial) hHeld.out hHeld.out.size (by simp only [List.nil_append, List.length_nil, List.length_cons]; omega) ?_
           intro v33 u5 r33 b33 g33 n33
           clear hHeld
           refine hK.out _ _ (Aside0.mk b33) (fun hHeld => ?_)
           clear hK K b33
           refine norm_ (a' := ?_) ?_ ?_
           rotate_left
           ·show Act.put _ (some 232) _ = _
            simp only [Act.put, aA, aB, aC, i64_w, i32_w]
            rfl
           refine one_ (i := 35) (N := some 234) (upto 41 36) rfl rfl (one_of HT_.out (by kernel_rfl)) (by decide) (fun K hK => ?_)
           refine Kd.R_lit_step Kd.string (w0 := w107) w107.heap.size 9 (by rfl) (N := 234) rfl (xs := ([t231] : List ByteArray)) (inner := [.string t231]) (ok := (fun _ => True)) (okp := (fun _ => True)) (by first | (go_simp; done) | (go_simp; rfl)) (Reps.one (show Kd.M Kd.string _ _ _ t231 [.string t231] from rfl) (Reps.none _ _)) (fun _ hk => hk) trivial hHeld.out hHeld.out.size (by simp) ?_
           intro v35 u6 r35 b35 g35 n35
           clear hHeld
           refine hK.out _ _ (Aside0.mk b35) (fun hHeld => ?_)
           clear hK K b35
           refine norm_ (a' := ?_) ?_ ?_
           rotate_left
           ·show Act.put _ (some 234) _ = _
            simp only [Act.put, aA, aB, aC, i64_w, i32_w]
            rfl
           replace r33 := Kd.R_grown r33 g35 (fun _ _ => by simp)
           obtain ⟨A5, c5, rfl⟩ := Kd.R_slice r35
           refine one_ (i := 36) (N := some 235) (upto 41 37) rfl rfl (one_of HT_.out (by kernel_rfl)) (by decide) (fun K hK => ?_)
           refine Kd.R_append_rows_step Kd.string (w0 := w107) w107.heap.size (by rfl) (.tmp 232) (.tmp 234) 24 9 (.string ⟨#[]⟩) 16 rfl Try.underlying24 info9 rfl (by decide) (by omega) v33 ([] ++ t233) ([t231]) _ _ _ (fun _ => True) (fun _ => False) rfl rfl r33 (Kd.R_reads' r35).2.2 (fun _ _ h => h) (fun _ h => h.elim) (fun _ _ => trivial) hHeld.out hHeld.out.size (by simp only [List.nil_append, List.length_nil, List.length_cons]; omega) ?_
           intro v36 u7 r36 b36 g36 n36
           clear hHeld
           refine hK.out _ _ (Aside0.mk b36) (fun hHeld => ?_)
           clear hK K b36
           refine norm_ (a' := ?_) ?_ ?_
           rotate_left
           ·show Act.put _ (some 235) _ = _
            simp only [Act.put, aA, aB, aC, i64_w, i32_w]
            rfl
           obtain ⟨L, hL⟩ : ∃ L, L = ([] ++ t233) ++ [t231] := ⟨_, rfl⟩
           rw [← hL] at r36
           obtain ⟨A6, c6, rfl⟩ := Kd.R_slice r36
           refine one_ (i := 37) (N := some 236) (upto 41 38) rfl rfl (one_of HT_.out (by kernel_rfl)) (by decide) (fun K hK => ?_)
           refine goes_ Try.func23 (by kernel_rfl) rfl #[.string t231, .int .i64 t227.length, .int .i64 t230, .string x, .slice A6 L.length c6] (by rfl) rfl rfl (by (try simp only [List.map_toArray, List.map_cons, List.map_nil]); first | done | rfl | (simp only [List.length_drop, List.length_take]; rfl)) ?_
           refine (VC3.out _ A6 c6 L hL (Kd.R_reads' r36).2.2 (Kd.R_reads' r36).2.1).mono ?_
           rintro e u37 ⟨rfl, hb⟩
           refine ⟨_, rfl, ?_⟩
           have n0_ := Aside0.mk (below_step hHeld.out hb)
           clear hb hHeld
           refine hK.out _ _ n0_ (fun hHeld => ?_)
           clear hK K n0_
           refine norm_ (a' := ?_) ?_ ?_
           rotate_left
           ·show Act.put _ (some 236) _ = _
            simp only [Act.put, aA, aB, aC, i64_w, i32_w]
            rfl
           refine pure_ (i := 38) (N := some 237) (v := ?_) (a' := ?_) (upto 41 39) rfl rfl (any_of HT_.out (by kernel_rfl)) (fun _ _ _ h => h) (Or.inl ⟨by rfl, ?_⟩) ?_ ?_
           rotate_left
           ·intro w'
            go_simp
            with_reducible rfl
           rotate_left
           ·simp only [Act.put, aA, aB, aC, i64_w, i32_w]
            rfl
           refine pure_ (i := 39) (N := some 238) (v := ?_) (a' := ?_) (upto 41 40) rfl rfl (any_of HT_.out (by kernel_rfl)) (fun _ _ _ h => h) (Or.inl ⟨by rfl, ?_⟩) ?_ ?_
           rotate_left
           ·intro w'
            go_simp
            with_reducible rfl
           rotate_left
           ·simp only [Act.put, aA, aB, aC, i64_w, i32_w]
            rfl
           refine pure_ (i := 40) (N := some 8) (v := ?_) (a' := ?_) (upto 41 41) rfl rfl (any_of HT_.out (by kernel_rfl)) (fun _ _ _ h => h) (Or.inl ⟨by rfl, ?_⟩) ?_ ?_
           rotate_left
           ·intro w'
            go_simp
            with_reducible rfl
           rotate_left
           ·simp only [Act.put, aA, aB, aC, i64_w, i32_w]
            rfl
           refine done_ (done_of HT_.out (by kernel_rfl)) ?_
           go_wp2_with (fail)
           go_ret
           exact ⟨rfl, below_step HB.out hHeld.out⟩
          ·refine Kd.R_lit_step Kd.string (w0 := w107) w107.heap.size 9 (by rfl) (N := 234) rfl (xs := ([t231] : List ByteArray)) (inner := [.string t231]) (ok := (fun k => some k ≠ v31.ownBlock)) (okp := (fun k => some k ≠ v31.ownBlock)) (by first | (go_simp; done) | (go_simp; rfl)) (Reps.one (show Kd.M Kd.string _ _ _ t231 [.string t231] from rfl) (Reps.none _ _)) (fun _ hk => hk) (Kd.fresh' (Kd.R_lt r31) _ (Nat.le_refl _)) hHeld.out hHeld.out.size (by simp) ?_
           intro v35 u4 r35 b35 g35 n35
           clear hHeld
           refine hK.out _ _ (Aside0.mk b35) (fun hHeld => ?_)
           clear hK K b35
           refine norm_ (a' := ?_) ?_ ?_
           rotate_left
           ·show Act.put _ (some 234) _ = _
            simp only [Act.put, aA, aB, aC, i64_w, i32_w]
            rfl
           replace r31 := Kd.R_grown r31 g35 (fun _ _ => by simp)
           refine one_ (i := 33) (N := some 232) (upto 41 36) rfl rfl (one_of HT_.out (by kernel_rfl)) (by decide) (fun K hK => ?_)
           refine Kd.R_append_rows_step Kd.string (w0 := w107) w107.heap.size (by rfl) (.tmp 230) (.tmp 231) 24 9 (.string ⟨#[]⟩) 16 rfl Try.underlying24 info9 rfl (by decide) (by omega) v31 ([]) (t233) _ _ _ (fun _ => True) (fun _ => False) rfl rfl r31 (Kd.C_below HCP.out hHeld.out) (fun _ _ h => h) (fun _ h => h.elim) (fun _ _ => trivial) hHeld.out hHeld.out.size (by simp only [List.nil_append, List.length_nil, List.length_cons]; omega) ?_
           intro v33 u5 r33 b33 g33 n33
           clear hHeld
           refine hK.out _ _ (Aside0.mk b33) (fun hHeld => ?_)
           clear hK K b33
           refine norm_ (a' := ?_) ?_ ?_
           rotate_left
           ·show Act.put _ (some 232) _ = _
            simp only [Act.put, aA, aB, aC, i64_w, i32_w]
            rfl
           replace r35 := Kd.R_grown r35 g33 (fun k hk => hk)
           obtain ⟨A5, c5, rfl⟩ := Kd.R_slice r35
           refine one_ (i := 36) (N := some 235) (upto 41 37) rfl rfl (one_of HT_.out (by kernel_rfl)) (by decide) (fun K hK => ?_)
           refine Kd.R_append_rows_step Kd.string (w0 := w107) w107.heap.size (by rfl) (.tmp 232) (.tmp 234) 24 9 (.string ⟨#[]⟩) 16 rfl Try.underlying24 info9 rfl (by decide) (by omega) v33 ([] ++ t233) ([t231]) _ _ _ (fun _ => True) (fun _ => False) rfl rfl r33 (Kd.R_reads' r35).2.2 (fun _ _ h => h) (fun _ h => h.elim) (fun _ _ => trivial) hHeld.out hHeld.out.size (by simp only [List.nil_append, List.length_nil, List.length_cons]; omega) ?_
           intro v36 u7 r36 b36 g36 n36
           clear hHeld
           refine hK.out _ _ (Aside0.mk b36) (fun hHeld => ?_)
           clear hK K b36
           refine norm_ (a' := ?_) ?_ ?_
           rotate_left
           ·show Act.put _ (some 235) _ = _
            simp only [Act.put, aA, aB, aC, i64_w, i32_w]
            rfl
           obtain ⟨L, hL⟩ : ∃ L, L = ([] ++ t233) ++ [t231] := ⟨_, rfl⟩
           rw [← hL] at r36
           obtain ⟨A6, c6, rfl⟩ := Kd.R_slice r36
           refine one_ (i := 37) (N := some 236) (upto 41 38) rfl rfl (one_of HT_.out (by kernel_rfl)) (by decide) (fun K hK => ?_)
           refine goes_ Try.func23 (by kernel_rfl) rfl #[.string t231, .int .i64 t227.length, .int .i64 t230, .string x, .slice A6 L.length c6] (by rfl) rfl rfl (by (try simp only [List.map_toArray, List.map_cons, List.map_nil]); first | done | rfl | (simp only [List.length_drop, List.length_take]; rfl)) ?_
           refine (VC3.out _ A6 c6 L hL (Kd.R_reads' r36).2.2 (Kd.R_reads' r36).2.1).mono ?_
           rintro e u37 ⟨rfl, hb⟩
           refine ⟨_, rfl, ?_⟩
           have n0_ := Aside0.mk (below_step hHeld.out hb)
           clear hb hHeld
           refine hK.out _ _ n0_ (fun hHeld => ?_)
           clear hK K n0_
           refine norm_ (a' := ?_) ?_ ?_
           rotate_left
           ·show Act.put _ (some 236) _ = _
            simp only [Act.put, aA, aB, aC, i64_w, i32_w]
            rfl
           refine pure_ (i := 38) (N := some 237) (v := ?_) (a' := ?_) (upto 41 39) rfl rfl (any_of HT_.out (by kernel_rfl)) (fun _ _ _ h => h) (Or.inl ⟨by rfl, ?_⟩) ?_ ?_
           rotate_left
           ·intro w'
            go_simp
            with_reducible rfl
           rotate_left
           ·simp only [Act.put, aA, aB, aC, i64_w, i32_w]
            rfl
           refine pure_ (i := 39) (N := some 238) (v := ?_) (a' := ?_) (upto 41 40) rfl rfl (any_of HT_.out (by kernel_rfl)) (fun _ _ _ h => h) (Or.inl ⟨by rfl, ?_⟩) ?_ ?_
           rotate_left
           ·intro w'
            go_simp
            with_reducible rfl
           rotate_left
           ·simp only [Act.put, aA, aB, aC, i64_w, i32_w]
            rfl
           refine pure_ (i := 40) (N := some 8) (v := ?_) (a' := ?_) (upto 41 41) rfl rfl (any_of HT_.out (by kernel_rfl)) (fun _ _ _ h => h) (Or.inl ⟨by rfl, ?_⟩) ?_ ?_
           rotate_left
           ·intro w'
            go_simp
            with_reducible rfl
           rotate_left
           ·simp only [Act.put, aA, aB, aC, i64_w, i32_w]
            rfl
           refine done_ (done_of HT_.out (by kernel_rfl)) ?_
           go_wp2_with (fail)
           go_ret
           exact ⟨rfl, below_step HB.out hHeld.out⟩
         ·refine Kd.R_lit_step Kd.string (w0 := w107) w107.heap.size 9 (by rfl) (N := 234) rfl (xs := ([t231] : List ByteArray)) (inner := [.string t231]) (ok := (fun _ => True)) (okp := (fun _ => True)) (by first | (go_simp; done) | (go_simp; rfl)) (Reps.one (show Kd.M Kd.string _ _ _ t231 [.string t231] from rfl) (Reps.none _ _)) (fun _ hk => hk) trivial hHeld.out hHeld.out.size (by simp) ?_
          intro v35 u3 r35 b35 g35 n35
          clear hHeld
          refine hK.out _ _ (Aside0.mk b35) (fun hHeld => ?_)
          clear hK K b35
          refine norm_ (a' := ?_) ?_ ?_
          rotate_left
          ·show Act.put _ (some 234) _ = _
           simp only [Act.put, aA, aB, aC, i64_w, i32_w]
           rfl
          refine one_ (i := 31) (N := some 230) #[T_,T_,T_,T_,T_,T_,T_,T_,T_,T_,T_,T_,T_,T_,T_,T_,T_,T_,T_,T_,T_,T_,T_,T_,T_,T_,T_,T_,T_,T_,T_,T_,T_,F_,T_,T_,F_,F_,F_,F_,F_] rfl rfl (one_of HT_.out (by kernel_rfl)) (by decide) (fun K hK => ?_)
          refine Kd.R_lit_step Kd.string (w0 := w107) w107.heap.size 9 (by rfl) (N := 230) rfl (xs := ([] : List ByteArray)) (inner := []) (ok := (fun _ => True)) (okp := (fun _ => True)) (by first | (go_simp; done) | (go_simp; rfl)) (Reps.none _ _) (fun _ hk => hk) trivial hHeld.out hHeld.out.size (by simp) ?_
          intro v31 u4 r31 b31 g31 n31
          clear hHeld
          refine hK.out _ _ (Aside0.mk b31) (fun hHeld => ?_)
          clear hK K b31
          refine norm_ (a' := ?_) ?_ ?_
          rotate_left
          ·show Act.put _ (some 230) _ = _
           simp only [Act.put, aA, aB, aC, i64_w, i32_w]
           rfl
          have r35b := Kd.R_elder' (v := v31) r35 (fun k hk => by obtain ⟨b, hb, hle⟩ := n31; rw [hb] at hk; cases hk; exact hle) (pw_below_grown (Below.refl _ _) none (Nat.le_refl _) g31 (fun _ h => by cases h))
          refine one_ (i := 33) (N := some 232) (upto 41 36) rfl rfl (one_of HT_.out (by kernel_rfl)) (by decide) (fun K hK => ?_)
          refine Kd.R_append_rows_step Kd.string (w0 := w107) w107.heap.size (by rfl) (.tmp 230) (.tmp 231) 24 9 (.string ⟨#[]⟩) 16 rfl Try.underlying24 info9 rfl (by decide) (by omega) v31 ([]) (t233) _ _ _ (fun _ => True) (fun _ => False) rfl rfl r31 (Kd.C_below HCP.out hHeld.out) (fun _ _ h => h) (fun _ h => h.elim) (fun _ _ => trivial) hHeld.out hHeld.out.size (by simp only [List.nil_append, List.length_nil, List.length_cons]; omega) ?_
          intro v33 u5 r33 b33 g33 n33
          clear hHeld
          refine hK.out _ _ (Aside0.mk b33) (fun hHeld => ?_)
          clear hK K b33
          refine norm_ (a' := ?_) ?_ ?_
          rotate_left
          ·show Act.put _ (some 232) _ = _
           simp only [Act.put, aA, aB, aC, i64_w, i32_w]
           rfl
          replace r35 := Kd.R_grown r35b g33 (fun k hk => hk.2)
          clear r35b
          obtain ⟨A5, c5, rfl⟩ := Kd.R_slice r35
          refine one_ (i := 36) (N := some 235) (upto 41 37) rfl rfl (one_of HT_.out (by kernel_rfl)) (by decide) (fun K hK => ?_)
          refine Kd.R_append_rows_step Kd.string (w0 := w107) w107.heap.size (by rfl) (.tmp 232) (.tmp 234) 24 9 (.string ⟨#[]⟩) 16 rfl Try.underlying24 info9 rfl (by decide) (by omega) v33 ([] ++ t233) ([t231]) _ _ _ (fun _ => True) (fun _ => False) rfl rfl r33 (Kd.R_reads' r35).2.2 (fun _ _ h => h) (fun _ h => h.elim) (fun _ _ => trivial) hHeld.out hHeld.out.size (by simp only [List.nil_append, List.length_nil, List.length_cons]; omega) ?_
          intro v36 u7 r36 b36 g36 n36
          clear hHeld
          refine hK.out _ _ (Aside0.mk b36) (fun hHeld => ?_)
          clear hK K b36
          refine norm_ (a' := ?_) ?_ ?_
          rotate_left
          ·show Act.put _ (some 235) _ = _
           simp only [Act.put, aA, aB, aC, i64_w, i32_w]
           rfl
          obtain ⟨L, hL⟩ : ∃ L, L = ([] ++ t233) ++ [t231] := ⟨_, rfl⟩
          rw [← hL] at r36
          obtain ⟨A6, c6, rfl⟩ := Kd.R_slice r36
          refine one_ (i := 37) (N := some 236) (upto 41 38) rfl rfl (one_of HT_.out (by kernel_rfl)) (by decide) (fun K hK => ?_)
          refine goes_ Try.func23 (by kernel_rfl) rfl #[.string t231, .int .i64 t227.length, .int .i64 t230, .string x, .slice A6 L.length c6] (by rfl) rfl rfl (by (try simp only [List.map_toArray, List.map_cons, List.map_nil]); first | done | rfl | (simp only [List.length_drop, List.length_take]; rfl)) ?_
          refine (VC3.out _ A6 c6 L hL (Kd.R_reads' r36).2.2 (Kd.R_reads' r36).2.1).mono ?_
          rintro e u37 ⟨rfl, hb⟩
          refine ⟨_, rfl, ?_⟩
          have n0_ := Aside0.mk (below_step hHeld.out hb)
          clear hb hHeld
          refine hK.out _ _ n0_ (fun hHeld => ?_)
          clear hK K n0_
          refine norm_ (a' := ?_) ?_ ?_
          rotate_left
          ·show Act.put _ (some 236) _ = _
           simp only [Act.put, aA, aB, aC, i64_w, i32_w]
           rfl
          refine pure_ (i := 38) (N := some 237) (v := ?_) (a' := ?_) (upto 41 39) rfl rfl (any_of HT_.out (by kernel_rfl)) (fun _ _ _ h => h) (Or.inl ⟨by rfl, ?_⟩) ?_ ?_
          rotate_left
          ·intro w'
           go_simp
           with_reducible rfl
          rotate_left
          ·simp only [Act.put, aA, aB, aC, i64_w, i32_w]
           rfl
          refine pure_ (i := 39) (N := some 238) (v := ?_) (a' := ?_) (upto 41 40) rfl rfl (any_of HT_.out (by kernel_rfl)) (fun _ _ _ h => h) (Or.inl ⟨by rfl, ?_⟩) ?_ ?_
          rotate_left
          ·intro w'
           go_simp
           with_reducible rfl
          rotate_left
          ·simp only [Act.put, aA, aB, aC, i64_w, i32_w]
           rfl
          refine pure_ (i := 40) (N := some 8) (v := ?_) (a' := ?_) (upto 41 41) rfl rfl (any_of HT_.out (by kernel_rfl)) (fun _ _ _ h => h) (Or.inl ⟨by rfl, ?_⟩) ?_ ?_
          rotate_left
          ·intro w'
           go_simp
           with_reducible rfl
          rotate_left
          ·simp only [Act.put, aA, aB, aC, i64_w, i32_w]
           rfl
          refine done_ (done_of HT_.out (by kernel_rfl)) ?_
          go_wp2_with (fail)
          go_ret
          exact ⟨rfl, below_step HB.out hHeld.out⟩
end Go.Proofs.Ytbbcklpenafefaa.P
