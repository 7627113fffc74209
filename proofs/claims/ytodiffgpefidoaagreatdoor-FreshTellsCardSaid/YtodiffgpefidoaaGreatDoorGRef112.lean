/- Slimmed by wip/slim.py. -/
import Derived.Test.YtodiffgpefidoaaGreatDoorG0
import Derived.Test.YtodiffgpefidoaaGreatDoorGRef10
import Derived.Test.YtodiffgpefidoaaGreatDoorGRef11
namespace Go.Proofs.YtodiffgpefidoaaGreatDoor.P
open Go.RowKit Go.Proofs.YtodiffgpefidoaaGreatDoorW.PrintWords Go.Proofs.YtodiffgpefidoaaGreatDoorW.PrintLast Go.Proofs.YtodiffgpefidoaaGreatDoorW.PrintMore
attribute [local go_sem] max2_int min2_int max_two min_two max_three min_three max_four min_four
set_option linter.unusedVariables false
set_option linter.unusedSimpArgs false
def letterlockref11_Covers.f (k : Nat) (a0_0 : ByteArray) (a0_1 : Int) (a0_2 : Int) (a0_3 : ByteArray) (a0_4 : ByteArray) (a1 : Int) (a2 : ByteArray) (l3 : List ByteArray) : Option (Bool) := (letterlockref11_Right.f k a0_0 a0_1 a0_2 a0_3 a0_4).bind fun t474 => (if t474 = true then ((letterlockref10_Verify.f k a0_3 a0_2 a1 a2 l3).bind fun t475 => (some t475)) else (some false))
set_option maxHeartbeats 8000000 in
set_option maxRecDepth 100000 in
theorem letterlockref11_Covers.calls (k : Nat) (a0_0 : ByteArray) (a0_1 : Int) (a0_2 : Int) (a0_3 : ByteArray) (a0_4 : ByteArray) (a1 : Int) (a2 : ByteArray) (A3 : Option Addr) (c3 : Nat) (l3 : List ByteArray) (r : Bool) (w : World) (hr3 : Kd.C Kd.string w A3 l3.length l3) (hc3 : l3.length ≤ c3) (h : letterlockref11_Covers.f k a0_0 a0_1 a0_2 a0_3 a0_4 a1 a2 l3 = some r) :
  Calls Tryz.prog 18 #[.agg #[.string a0_0, .int .u64 a0_1, .int .i64 a0_2, .string a0_3, .string a0_4], .int .i64 a1, .string a2, .slice A3 l3.length c3] w fun e w' => e = .returned (.bool r) ∧ Below w.heap.size w w' := by
 have hu28 := Tryz.underlying28
 have HR3 := Aside0.mk hr3
 have HC3 := Aside0.mk hc3
 clear hr3 hc3
 have HB := Aside0.mk (Below.refl w.heap.size w)
 unfold letterlockref11_Covers.f at h
 have H := h
 clear h
 replace H := Option.bind_eq_some_iff.mp H
 obtain ⟨t474, A50, H⟩ := H
 try dsimp only at H
 have A5 := Aside0.mk A50
 clear A50
 by_cases c6 : t474 = true
 ·subst c6
  rw [if_pos rfl] at H
  replace H := Option.bind_eq_some_iff.mp H
  obtain ⟨t475, A70, H⟩ := H
  try dsimp only at H
  have A7 := Aside0.mk A70
  clear A70
  obtain rfl := Option.some.inj H
  go_enter Tryz.func18, Tryz.ntmps18
  go_wp2_with (first | ((with_reducible refine gate_dst (N := 4) rfl ?_); refine box_event ?hg (N := 4) ?hd (cs := #[.string a0_0, .int .u64 a0_1, .int .i64 a0_2, .string a0_3, .string a0_4]) (t := 28) ?hr ?_; (case hd => rfl); (case hg => rfl); (case hr => first | (go_simp; done) | (go_simp; rfl)); intro gb473 hg w8 hbox hb; have n0_ := Aside0.mk (below_step bl_ hb); have n1_ := Aside0.mk (hbox); have n2_ := Aside0.mk ((by rw [hg]; exact (below_size bl_) : w.heap.size ≤ gb473)); have n3_ := Aside0.mk ((by rw [hg]; exact (below_size bl_) : w.heap.size ≤ gb473)); clear HB; have HB := n0_; have BK473 := n1_; have GW473 := n2_; have GE473 := n3_; clear n0_ n1_ n2_ n3_; clear hb hbox hg; have hcz9_0 : w8.cell? ⟨gb473, 0, none⟩ = some (.string a0_0) := (blk_cell BK473.out 0).trans rfl; have hcz9_1 : w8.cell? ⟨gb473, 1, none⟩ = some (.int .u64 a0_1) := (blk_cell BK473.out 1).trans rfl; have hcz9_2 : w8.cell? ⟨gb473, 2, none⟩ = some (.int .i64 a0_2) := (blk_cell BK473.out 2).trans rfl; have hcz9_3 : w8.cell? ⟨gb473, 3, none⟩ = some (.string a0_3) := (blk_cell BK473.out 3).trans rfl; have hcz9_4 : w8.cell? ⟨gb473, 4, none⟩ = some (.string a0_4) := (blk_cell BK473.out 4).trans rfl; have hfz9_0 := blk_frozen BK473.out 0; have hfz9_1 := blk_frozen BK473.out 1; have hfz9_2 := blk_frozen BK473.out 2; have hfz9_3 := blk_frozen BK473.out 3; have hfz9_4 := blk_frozen BK473.out 4) | ((with_reducible refine gate_callee (f := 14) rfl ?_); refine gL (some 10) Tryz.func14 #[.agg #[.string a0_0, .int .u64 a0_1, .int .i64 a0_2, .string a0_3, .string a0_4]] rfl ?_; (with_reducible refine (letterlockref11_Right.calls k a0_0 a0_1 a0_2 a0_3 a0_4 true _ A5.out).mono ?_); rintro e w10 ⟨rfl, hb⟩; refine ⟨_, rfl, ?_⟩; have n0_ := Aside0.mk (blk_below (g := gb473) (o := .cells #[.string a0_0, .int .u64 a0_1, .int .i64 a0_2, .string a0_3, .string a0_4] 28 (0, 0)) kl_ hb); have n1_ := Aside0.mk (below_step bl_ hb); clear BK473; clear HB; have BK473 := n0_; have HB := n1_; clear n0_ n1_; (try clear hb); have hcz11_0 : w10.cell? ⟨gb473, 0, none⟩ = some (.string a0_0) := (blk_cell BK473.out 0).trans rfl; have hcz11_1 : w10.cell? ⟨gb473, 1, none⟩ = some (.int .u64 a0_1) := (blk_cell BK473.out 1).trans rfl; have hcz11_2 : w10.cell? ⟨gb473, 2, none⟩ = some (.int .i64 a0_2) := (blk_cell BK473.out 2).trans rfl; have hcz11_3 : w10.cell? ⟨gb473, 3, none⟩ = some (.string a0_3) := (blk_cell BK473.out 3).trans rfl; have hcz11_4 : w10.cell? ⟨gb473, 4, none⟩ = some (.string a0_4) := (blk_cell BK473.out 4).trans rfl; have hfz11_0 := blk_frozen BK473.out 0; have hfz11_1 := blk_frozen BK473.out 1; have hfz11_2 := blk_frozen BK473.out 2; have hfz11_3 := blk_frozen BK473.out 3; have hfz11_4 := blk_frozen BK473.out 4) | (go_at_call 45; (with_reducible refine (letterlockref10_Verify.calls k a0_3 a0_2 a1 a2 _ _ l3 t475 _ ?side1 ?side2 A7.out).mono ?_); (case side1 => repeat (first | exact (Kd.C_below HR3.out HB.out) | (with_reducible refine Kd.C_alloc ?_ _) | (with_reducible refine Kd.C_drewN ?_ _) | (with_reducible refine Kd.C_drew ?_))); (case side2 => exact HC3.out); rintro e w12 ⟨rfl, hb⟩; have n0_ := Aside0.mk (blk_below (g := gb473) (o := .cells #[.string a0_0, .int .u64 a0_1, .int .i64 a0_2, .string a0_3, .string a0_4] 28 (0, 0)) kl_ hb); have n1_ := Aside0.mk (below_step bl_ hb); clear BK473; clear HB; have BK473 := n0_; have HB := n1_; clear n0_ n1_; (try clear hb)))
  go_ret
  exact ⟨eq_, bl_⟩
 ·replace c6 := Bool.eq_false_iff.mpr c6
  subst c6
  rw [if_neg (show ¬ (false = true) by decide)] at H
  obtain rfl := Option.some.inj H
  go_enter Tryz.func18, Tryz.ntmps18
  go_wp2_with (first | ((with_reducible refine gate_dst (N := 4) rfl ?_); refine box_event ?hg (N := 4) ?hd (cs := #[.string a0_0, .int .u64 a0_1, .int .i64 a0_2, .string a0_3, .string a0_4]) (t := 28) ?hr ?_; (case hd => rfl); (case hg => rfl); (case hr => first | (go_simp; done) | (go_simp; rfl)); intro gb473 hg w13 hbox hb; have n0_ := Aside0.mk (below_step bl_ hb); have n1_ := Aside0.mk (hbox); have n2_ := Aside0.mk ((by rw [hg]; exact (below_size bl_) : w.heap.size ≤ gb473)); have n3_ := Aside0.mk ((by rw [hg]; exact (below_size bl_) : w.heap.size ≤ gb473)); clear HB; have HB := n0_; have BK473 := n1_; have GW473 := n2_; have GE473 := n3_; clear n0_ n1_ n2_ n3_; clear hb hbox hg; have hcz14_0 : w13.cell? ⟨gb473, 0, none⟩ = some (.string a0_0) := (blk_cell BK473.out 0).trans rfl; have hcz14_1 : w13.cell? ⟨gb473, 1, none⟩ = some (.int .u64 a0_1) := (blk_cell BK473.out 1).trans rfl; have hcz14_2 : w13.cell? ⟨gb473, 2, none⟩ = some (.int .i64 a0_2) := (blk_cell BK473.out 2).trans rfl; have hcz14_3 : w13.cell? ⟨gb473, 3, none⟩ = some (.string a0_3) := (blk_cell BK473.out 3).trans rfl; have hcz14_4 : w13.cell? ⟨gb473, 4, none⟩ = some (.string a0_4) := (blk_cell BK473.out 4).trans rfl; have hfz14_0 := blk_frozen BK473.out 0; have hfz14_1 := blk_frozen BK473.out 1; have hfz14_2 := blk_frozen BK473.out 2; have hfz14_3 := blk_frozen BK473.out 3; have hfz14_4 := blk_frozen BK473.out 4) | ((with_reducible refine gate_callee (f := 14) rfl ?_); refine gL (some 10) Tryz.func14 #[.agg #[.string a0_0, .int .u64 a0_1, .int .i64 a0_2, .string a0_3, .string a0_4]] rfl ?_; (with_reducible refine (letterlockref11_Right.calls k a0_0 a0_1 a0_2 a0_3 a0_4 false _ A5.out).mono ?_); rintro e w15 ⟨rfl, hb⟩; refine ⟨_, rfl, ?_⟩; have n0_ := Aside0.mk (blk_below (g := gb473) (o := .cells #[.string a0_0, .int .u64 a0_1, .int .i64 a0_2, .string a0_3, .string a0_4] 28 (0, 0)) kl_ hb); have n1_ := Aside0.mk (below_step bl_ hb); clear BK473; clear HB; have BK473 := n0_; have HB := n1_; clear n0_ n1_; (try clear hb)))
  go_ret
  exact ⟨eq_, bl_⟩
end Go.Proofs.YtodiffgpefidoaaGreatDoor.P

