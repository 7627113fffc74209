/- Slimmed by wip/slim.py. -/
import Derived.Test.YtodiffgpefidoaaGreatDoorG0
import Derived.Test.YtodiffgpefidoaaGreatDoorGLaw11
namespace Go.Proofs.YtodiffgpefidoaaGreatDoor.P
open Go.RowKit Go.Proofs.YtodiffgpefidoaaGreatDoorW.PrintWords Go.Proofs.YtodiffgpefidoaaGreatDoorW.PrintLast Go.Proofs.YtodiffgpefidoaaGreatDoorW.PrintMore
attribute [local go_sem] max2_int min2_int max_two min_two max_three min_three max_four min_four
set_option linter.unusedVariables false
set_option linter.unusedSimpArgs false
def letterlocklaw11_FreshTells.f (k : Nat) (a0_0 : ByteArray) (a0_1 : Int) (a0_2 : Int) (a0_3 : ByteArray) (a0_4 : ByteArray) (a1 : ByteArray) (a2 : ByteArray) (a3 : ByteArray) (l4 : List ByteArray) (a5 : Int) (a6 : Int) (a7 : Int) (l8 : List ByteArray) : Option (Bool) := (letterlocklaw11_shown.f k).bind fun t477 => ((letterlocklaw11_light.f k l4).bind fun t478 => ((letterlocklaw11_light.f k l8).bind fun t479 => (if t477 = true then (if t478 = true then (if t479 = true then (if (wrap64 ((wrap64 ((wrap64 ((a0_3.size : Int) + (a0_4.size : Int))) + (a0_0.size : Int))) + (a1.size : Int))) > 9000 then (some t477) else (if (wrap64 ((a2.size : Int) + (a3.size : Int))) > 9000 then (some t477) else (none))) else (some t477)) else (some t477)) else (none))))
set_option maxHeartbeats 8000000 in
set_option maxRecDepth 100000 in
theorem letterlocklaw11_FreshTells.calls (k : Nat) (a0_0 : ByteArray) (a0_1 : Int) (a0_2 : Int) (a0_3 : ByteArray) (a0_4 : ByteArray) (a1 : ByteArray) (a2 : ByteArray) (a3 : ByteArray) (A4 : Option Addr) (c4 : Nat) (l4 : List ByteArray) (a5 : Int) (a6 : Int) (a7 : Int) (A8 : Option Addr) (c8 : Nat) (l8 : List ByteArray) (r : Bool) (w : World) (hr4 : Kd.C Kd.string w A4 l4.length l4) (hc4 : l4.length ≤ c4) (hr8 : Kd.C Kd.string w A8 l8.length l8) (hc8 : l8.length ≤ c8) (h : letterlocklaw11_FreshTells.f k a0_0 a0_1 a0_2 a0_3 a0_4 a1 a2 a3 l4 a5 a6 a7 l8 = some r) (hV : Laid8 w) :
  Calls Tryz.prog 3 #[.agg #[.string a0_0, .int .u64 a0_1, .int .i64 a0_2, .string a0_3, .string a0_4], .string a1, .string a2, .string a3, .slice A4 l4.length c4, .int .u64 a5, .int .u64 a6, .int .i64 a7, .slice A8 l8.length c8] w fun e w' => e = .returned (.bool r) ∧ Below w.heap.size w w' := by
 have HV := Aside0.mk hV
 clear hV
 have hu24 := Tryz.underlying24
 have hu28 := Tryz.underlying28
 have HR4 := Aside0.mk hr4
 have HC4 := Aside0.mk hc4
 clear hr4 hc4
 have HR8 := Aside0.mk hr8
 have HC8 := Aside0.mk hc8
 clear hr8 hc8
 have HB := Aside0.mk (Below.refl w.heap.size w)
 unfold letterlocklaw11_FreshTells.f at h
 have H := h
 clear h
 replace H := Option.bind_eq_some_iff.mp H
 obtain ⟨t477, A100, H⟩ := H
 try dsimp only at H
 have A10 := Aside0.mk A100
 clear A100
 replace H := Option.bind_eq_some_iff.mp H
 obtain ⟨t478, A110, H⟩ := H
 try dsimp only at H
 have A11 := Aside0.mk A110
 clear A110
 replace H := Option.bind_eq_some_iff.mp H
 obtain ⟨t479, A120, H⟩ := H
 try dsimp only at H
 have A12 := Aside0.mk A120
 clear A120
 by_cases c13 : t477 = true
 ·subst c13
  rw [if_pos rfl] at H
  by_cases c14 : t478 = true
  ·subst c14
   rw [if_pos rfl] at H
   by_cases c15 : t479 = true
   ·subst c15
    rw [if_pos rfl] at H
    by_cases c16 : (wrap64 ((wrap64 ((wrap64 ((a0_3.size : Int) + (a0_4.size : Int))) + (a0_0.size : Int))) + (a1.size : Int))) > 9000
    ·rw [if_pos c16] at H
     have c16b0 : decide (9000 < (wrap64 ((wrap64 ((wrap64 ((a0_3.size : Int) + (a0_4.size : Int))) + (a0_0.size : Int))) + (a1.size : Int)))) = true := decide_eq_true c16
     clear c16
     obtain rfl := Option.some.inj H
     go_enter Tryz.func3, Tryz.ntmps3
     go_wp2_with (first | ((with_reducible refine gate_dst (N := 9) rfl ?_); (try (refine gate_guard (by rfl) ?_; dsimp only)); refine box_event ?hg (N := 9) ?hd (cs := #[.string a0_0, .int .u64 a0_1, .int .i64 a0_2, .string a0_3, .string a0_4]) (t := 24) ?hr ?_; (case hd => rfl); (case hg => rfl); (case hr => first | (go_simp; done) | (go_simp; rfl)); intro gb476 hg w17 hbox hb; have n0_ := Aside0.mk (below_step bl_ hb); have n1_ := Aside0.mk (hbox); have n2_ := Aside0.mk ((by rw [hg]; exact (below_size bl_) : w.heap.size ≤ gb476)); have n3_ := Aside0.mk ((by rw [hg]; exact (below_size bl_) : w.heap.size ≤ gb476)); clear HB; have HB := n0_; have BK476 := n1_; have GW476 := n2_; have GE476 := n3_; clear n0_ n1_ n2_ n3_; clear hb hbox hg) | ((with_reducible refine gate_callee (f := 4) rfl ?_); refine gL (some 37) Tryz.func4 #[] rfl ?_; (with_reducible refine (letterlocklaw11_shown.calls k  true _ A10.out ?sidev).mono ?_); (case sidev => exact Laid8.below HV.out bl_); rintro e w18 ⟨rfl, hb⟩; refine ⟨_, rfl, ?_⟩; have n0_ := Aside0.mk (blk_below (g := gb476) (o := .cells #[.string a0_0, .int .u64 a0_1, .int .i64 a0_2, .string a0_3, .string a0_4] 24 (0, 0)) kl_ hb); have n1_ := Aside0.mk (below_step bl_ hb); clear BK476; clear HB; have BK476 := n0_; have HB := n1_; clear n0_ n1_; (try clear hb)) | ((with_reducible refine gate_callee (f := 5) rfl ?_); refine gL (some 39) Tryz.func5 #[.slice A4 l4.length c4] rfl ?_; (with_reducible refine (letterlocklaw11_light.calls k _ _ l4 true _ ?side1 ?side2 A11.out).mono ?_); (case side1 => repeat (first | exact (Kd.C_below HR4.out HB.out) | (with_reducible refine Kd.C_alloc ?_ _) | (with_reducible refine Kd.C_drewN ?_ _) | (with_reducible refine Kd.C_drew ?_))); (case side2 => exact HC4.out); rintro e w' ⟨rfl, ⟨nd, rfl⟩⟩; refine ⟨_, rfl, ?_⟩) | ((with_reducible refine gate_callee (f := 5) rfl ?_); refine gL (some 41) Tryz.func5 #[.slice A8 l8.length c8] rfl ?_; (with_reducible refine (letterlocklaw11_light.calls k _ _ l8 true _ ?side1 ?side2 A12.out).mono ?_); (case side1 => repeat (first | exact (Kd.C_below HR8.out bl_) | (with_reducible refine Kd.C_alloc ?_ _) | (with_reducible refine Kd.C_drewN ?_ _) | (with_reducible refine Kd.C_drew ?_))); (case side2 => exact HC8.out); rintro e w' ⟨rfl, ⟨nd, rfl⟩⟩; refine ⟨_, rfl, ?_⟩; have hcz19_0 : w18.cell? ⟨gb476, 0, none⟩ = some (.string a0_0) := (blk_cell BK476.out 0).trans rfl; have hcz19_1 : w18.cell? ⟨gb476, 1, none⟩ = some (.int .u64 a0_1) := (blk_cell BK476.out 1).trans rfl; have hcz19_2 : w18.cell? ⟨gb476, 2, none⟩ = some (.int .i64 a0_2) := (blk_cell BK476.out 2).trans rfl; have hcz19_3 : w18.cell? ⟨gb476, 3, none⟩ = some (.string a0_3) := (blk_cell BK476.out 3).trans rfl; have hcz19_4 : w18.cell? ⟨gb476, 4, none⟩ = some (.string a0_4) := (blk_cell BK476.out 4).trans rfl; have hfz19_0 := blk_frozen BK476.out 0; have hfz19_1 := blk_frozen BK476.out 1; have hfz19_2 := blk_frozen BK476.out 2; have hfz19_3 := blk_frozen BK476.out 3; have hfz19_4 := blk_frozen BK476.out 4))
     go_ret
     exact ⟨eq_, bl_⟩
    ·rw [if_neg c16] at H
     have c16b0 : decide (9000 < (wrap64 ((wrap64 ((wrap64 ((a0_3.size : Int) + (a0_4.size : Int))) + (a0_0.size : Int))) + (a1.size : Int)))) = false := decide_eq_false c16
     clear c16
     by_cases c20 : (wrap64 ((a2.size : Int) + (a3.size : Int))) > 9000
     ·rw [if_pos c20] at H
      have c20b0 : decide (9000 < (wrap64 ((a2.size : Int) + (a3.size : Int)))) = true := decide_eq_true c20
      clear c20
      obtain rfl := Option.some.inj H
      go_enter Tryz.func3, Tryz.ntmps3
      go_wp2_with (first | ((with_reducible refine gate_dst (N := 9) rfl ?_); (try (refine gate_guard (by rfl) ?_; dsimp only)); refine box_event ?hg (N := 9) ?hd (cs := #[.string a0_0, .int .u64 a0_1, .int .i64 a0_2, .string a0_3, .string a0_4]) (t := 24) ?hr ?_; (case hd => rfl); (case hg => rfl); (case hr => first | (go_simp; done) | (go_simp; rfl)); intro gb476 hg w21 hbox hb; have n0_ := Aside0.mk (below_step bl_ hb); have n1_ := Aside0.mk (hbox); have n2_ := Aside0.mk ((by rw [hg]; exact (below_size bl_) : w.heap.size ≤ gb476)); have n3_ := Aside0.mk ((by rw [hg]; exact (below_size bl_) : w.heap.size ≤ gb476)); clear HB; have HB := n0_; have BK476 := n1_; have GW476 := n2_; have GE476 := n3_; clear n0_ n1_ n2_ n3_; clear hb hbox hg) | ((with_reducible refine gate_callee (f := 4) rfl ?_); refine gL (some 37) Tryz.func4 #[] rfl ?_; (with_reducible refine (letterlocklaw11_shown.calls k  true _ A10.out ?sidev).mono ?_); (case sidev => exact Laid8.below HV.out bl_); rintro e w22 ⟨rfl, hb⟩; refine ⟨_, rfl, ?_⟩; have n0_ := Aside0.mk (blk_below (g := gb476) (o := .cells #[.string a0_0, .int .u64 a0_1, .int .i64 a0_2, .string a0_3, .string a0_4] 24 (0, 0)) kl_ hb); have n1_ := Aside0.mk (below_step bl_ hb); clear BK476; clear HB; have BK476 := n0_; have HB := n1_; clear n0_ n1_; (try clear hb)) | ((with_reducible refine gate_callee (f := 5) rfl ?_); refine gL (some 39) Tryz.func5 #[.slice A4 l4.length c4] rfl ?_; (with_reducible refine (letterlocklaw11_light.calls k _ _ l4 true _ ?side1 ?side2 A11.out).mono ?_); (case side1 => repeat (first | exact (Kd.C_below HR4.out HB.out) | (with_reducible refine Kd.C_alloc ?_ _) | (with_reducible refine Kd.C_drewN ?_ _) | (with_reducible refine Kd.C_drew ?_))); (case side2 => exact HC4.out); rintro e w' ⟨rfl, ⟨nd, rfl⟩⟩; refine ⟨_, rfl, ?_⟩) | ((with_reducible refine gate_callee (f := 5) rfl ?_); refine gL (some 41) Tryz.func5 #[.slice A8 l8.length c8] rfl ?_; (with_reducible refine (letterlocklaw11_light.calls k _ _ l8 true _ ?side1 ?side2 A12.out).mono ?_); (case side1 => repeat (first | exact (Kd.C_below HR8.out bl_) | (with_reducible refine Kd.C_alloc ?_ _) | (with_reducible refine Kd.C_drewN ?_ _) | (with_reducible refine Kd.C_drew ?_))); (case side2 => exact HC8.out); rintro e w' ⟨rfl, ⟨nd, rfl⟩⟩; refine ⟨_, rfl, ?_⟩; have hcz23_0 : w22.cell? ⟨gb476, 0, none⟩ = some (.string a0_0) := (blk_cell BK476.out 0).trans rfl; have hcz23_1 : w22.cell? ⟨gb476, 1, none⟩ = some (.int .u64 a0_1) := (blk_cell BK476.out 1).trans rfl; have hcz23_2 : w22.cell? ⟨gb476, 2, none⟩ = some (.int .i64 a0_2) := (blk_cell BK476.out 2).trans rfl; have hcz23_3 : w22.cell? ⟨gb476, 3, none⟩ = some (.string a0_3) := (blk_cell BK476.out 3).trans rfl; have hcz23_4 : w22.cell? ⟨gb476, 4, none⟩ = some (.string a0_4) := (blk_cell BK476.out 4).trans rfl; have hfz23_0 := blk_frozen BK476.out 0; have hfz23_1 := blk_frozen BK476.out 1; have hfz23_2 := blk_frozen BK476.out 2; have hfz23_3 := blk_frozen BK476.out 3; have hfz23_4 := blk_frozen BK476.out 4))
      go_ret
      exact ⟨eq_, bl_⟩
     ·rw [if_neg c20] at H
      exact absurd H (by simp)
   ·replace c15 := Bool.eq_false_iff.mpr c15
    subst c15
    rw [if_neg (show ¬ (false = true) by decide)] at H
    obtain rfl := Option.some.inj H
    go_enter Tryz.func3, Tryz.ntmps3
    go_wp2_with (first | ((with_reducible refine gate_dst (N := 9) rfl ?_); (try (refine gate_guard (by rfl) ?_; dsimp only)); refine box_event ?hg (N := 9) ?hd (cs := #[.string a0_0, .int .u64 a0_1, .int .i64 a0_2, .string a0_3, .string a0_4]) (t := 24) ?hr ?_; (case hd => rfl); (case hg => rfl); (case hr => first | (go_simp; done) | (go_simp; rfl)); intro gb476 hg w24 hbox hb; have n0_ := Aside0.mk (below_step bl_ hb); have n1_ := Aside0.mk (hbox); have n2_ := Aside0.mk ((by rw [hg]; exact (below_size bl_) : w.heap.size ≤ gb476)); have n3_ := Aside0.mk ((by rw [hg]; exact (below_size bl_) : w.heap.size ≤ gb476)); clear HB; have HB := n0_; have BK476 := n1_; have GW476 := n2_; have GE476 := n3_; clear n0_ n1_ n2_ n3_; clear hb hbox hg) | ((with_reducible refine gate_callee (f := 4) rfl ?_); refine gL (some 37) Tryz.func4 #[] rfl ?_; (with_reducible refine (letterlocklaw11_shown.calls k  true _ A10.out ?sidev).mono ?_); (case sidev => exact Laid8.below HV.out bl_); rintro e w25 ⟨rfl, hb⟩; refine ⟨_, rfl, ?_⟩; have n0_ := Aside0.mk (blk_below (g := gb476) (o := .cells #[.string a0_0, .int .u64 a0_1, .int .i64 a0_2, .string a0_3, .string a0_4] 24 (0, 0)) kl_ hb); have n1_ := Aside0.mk (below_step bl_ hb); clear BK476; clear HB; have BK476 := n0_; have HB := n1_; clear n0_ n1_; (try clear hb)) | ((with_reducible refine gate_callee (f := 5) rfl ?_); refine gL (some 39) Tryz.func5 #[.slice A4 l4.length c4] rfl ?_; (with_reducible refine (letterlocklaw11_light.calls k _ _ l4 true _ ?side1 ?side2 A11.out).mono ?_); (case side1 => repeat (first | exact (Kd.C_below HR4.out HB.out) | (with_reducible refine Kd.C_alloc ?_ _) | (with_reducible refine Kd.C_drewN ?_ _) | (with_reducible refine Kd.C_drew ?_))); (case side2 => exact HC4.out); rintro e w' ⟨rfl, ⟨nd, rfl⟩⟩; refine ⟨_, rfl, ?_⟩) | ((with_reducible refine gate_callee (f := 5) rfl ?_); refine gL (some 41) Tryz.func5 #[.slice A8 l8.length c8] rfl ?_; (with_reducible refine (letterlocklaw11_light.calls k _ _ l8 false _ ?side1 ?side2 A12.out).mono ?_); (case side1 => repeat (first | exact (Kd.C_below HR8.out bl_) | (with_reducible refine Kd.C_alloc ?_ _) | (with_reducible refine Kd.C_drewN ?_ _) | (with_reducible refine Kd.C_drew ?_))); (case side2 => exact HC8.out); rintro e w' ⟨rfl, ⟨nd, rfl⟩⟩; refine ⟨_, rfl, ?_⟩))
    go_ret
    exact ⟨eq_, bl_⟩
  ·replace c14 := Bool.eq_false_iff.mpr c14
   subst c14
   rw [if_neg (show ¬ (false = true) by decide)] at H
   obtain rfl := Option.some.inj H
   go_enter Tryz.func3, Tryz.ntmps3
   go_wp2_with (first | ((with_reducible refine gate_dst (N := 9) rfl ?_); (try (refine gate_guard (by rfl) ?_; dsimp only)); refine box_event ?hg (N := 9) ?hd (cs := #[.string a0_0, .int .u64 a0_1, .int .i64 a0_2, .string a0_3, .string a0_4]) (t := 24) ?hr ?_; (case hd => rfl); (case hg => rfl); (case hr => first | (go_simp; done) | (go_simp; rfl)); intro gb476 hg w26 hbox hb; have n0_ := Aside0.mk (below_step bl_ hb); have n1_ := Aside0.mk (hbox); have n2_ := Aside0.mk ((by rw [hg]; exact (below_size bl_) : w.heap.size ≤ gb476)); have n3_ := Aside0.mk ((by rw [hg]; exact (below_size bl_) : w.heap.size ≤ gb476)); clear HB; have HB := n0_; have BK476 := n1_; have GW476 := n2_; have GE476 := n3_; clear n0_ n1_ n2_ n3_; clear hb hbox hg) | ((with_reducible refine gate_callee (f := 4) rfl ?_); refine gL (some 37) Tryz.func4 #[] rfl ?_; (with_reducible refine (letterlocklaw11_shown.calls k  true _ A10.out ?sidev).mono ?_); (case sidev => exact Laid8.below HV.out bl_); rintro e w27 ⟨rfl, hb⟩; refine ⟨_, rfl, ?_⟩; have n0_ := Aside0.mk (blk_below (g := gb476) (o := .cells #[.string a0_0, .int .u64 a0_1, .int .i64 a0_2, .string a0_3, .string a0_4] 24 (0, 0)) kl_ hb); have n1_ := Aside0.mk (below_step bl_ hb); clear BK476; clear HB; have BK476 := n0_; have HB := n1_; clear n0_ n1_; (try clear hb)) | ((with_reducible refine gate_callee (f := 5) rfl ?_); refine gL (some 39) Tryz.func5 #[.slice A4 l4.length c4] rfl ?_; (with_reducible refine (letterlocklaw11_light.calls k _ _ l4 false _ ?side1 ?side2 A11.out).mono ?_); (case side1 => repeat (first | exact (Kd.C_below HR4.out HB.out) | (with_reducible refine Kd.C_alloc ?_ _) | (with_reducible refine Kd.C_drewN ?_ _) | (with_reducible refine Kd.C_drew ?_))); (case side2 => exact HC4.out); rintro e w' ⟨rfl, ⟨nd, rfl⟩⟩; refine ⟨_, rfl, ?_⟩) | ((with_reducible refine gate_callee (f := 5) rfl ?_); refine gL (some 41) Tryz.func5 #[.slice A8 l8.length c8] rfl ?_; (with_reducible refine (letterlocklaw11_light.calls k _ _ l8 t479 _ ?side1 ?side2 A12.out).mono ?_); (case side1 => repeat (first | exact (Kd.C_below HR8.out bl_) | (with_reducible refine Kd.C_alloc ?_ _) | (with_reducible refine Kd.C_drewN ?_ _) | (with_reducible refine Kd.C_drew ?_))); (case side2 => exact HC8.out); rintro e w' ⟨rfl, ⟨nd, rfl⟩⟩; refine ⟨_, rfl, ?_⟩))
   go_ret
   exact ⟨eq_, bl_⟩
 ·replace c13 := Bool.eq_false_iff.mpr c13
  subst c13
  rw [if_neg (show ¬ (false = true) by decide)] at H
  exact absurd H (by simp)
end Go.Proofs.YtodiffgpefidoaaGreatDoor.P

