/- Slimmed by wip/slim.py. -/
import Derived.Test.YtodiffgpefidoaaGreatDoorG0
import Derived.Test.YtodiffgpefidoaaGreatDoorGFresh
import Derived.Test.YtodiffgpefidoaaGreatDoorGFresh1
import Derived.Test.YtodiffgpefidoaaGreatDoorGRef5
namespace Go.Proofs.YtodiffgpefidoaaGreatDoor.P
open Go.RowKit Go.Proofs.YtodiffgpefidoaaGreatDoorW.PrintWords Go.Proofs.YtodiffgpefidoaaGreatDoorW.PrintLast Go.Proofs.YtodiffgpefidoaaGreatDoorW.PrintMore
attribute [local go_sem] max2_int min2_int max_two min_two max_three min_three max_four min_four
set_option linter.unusedVariables false
set_option linter.unusedSimpArgs false
def letterlocklaw11_shown.f (k : Nat)  : Option (Bool) := (fresh_Take.f k (⟨#[]⟩ : ByteArray)).bind fun bt286 => ((letterlocklaw11_secretOf.f k (⟨#[97, 110, 110, 97]⟩ : ByteArray)).bind fun t293 => ((fresh_Build.f k t293 (⟨#[97, 110, 110, 97]⟩ : ByteArray) 5 ([] : List ByteArray)).bind fun bt294 => (if bt286.2.2.2.2.2 = 2 then (if bt294.2.2.2.2.2 = 0 then ((letterlocklaw11_publicOf.f k (⟨#[97, 110, 110, 97]⟩ : ByteArray)).bind fun t301 => ((fresh_Check.f k bt294.1 bt294.2.1 bt294.2.2.1 bt294.2.2.2.1 bt294.2.2.2.2.1 t301 (⟨#[97, 110, 110, 97]⟩ : ByteArray) 6 1).bind fun t302 => (some (t302 == 0)))) else (none)) else (none))))
def letterlocklaw11_shown.T3 : Bool × List (List Nat × List Nat) := (true, [([], []), ([0], [0]), ([1], [1]), ([2], [2]), ([3, 2], [2, 3]), ([2, 4], [2, 4]), ([5, 2], [5]), ([6], [6]), ([6, 6], [6]), ([7, 8, 8, 6], [6, 7, 8]), ([9, 6], [6, 9]), ([6, 10], [6, 10]), ([11, 9, 0, 1, 2, 3, 4, 5, 6, 7, 8, 9, 10, 11], [11])])
def letterlocklaw11_shown.B3 : List Nat := [0, 1, 3, 7, 15, 31, 63, 127, 127, 511, 1023, 2047, 4095]
theorem letterlocklaw11_shown.tab3 : rtab .any (opsOf Tryz.f4 3) = letterlocklaw11_shown.T3 := by kernel_rfl
theorem letterlocklaw11_shown.bits3 : waitsOk letterlocklaw11_shown.T3.2 letterlocklaw11_shown.B3 = true := by kernel_rfl
set_option maxHeartbeats 8000000 in
set_option maxRecDepth 100000 in
theorem letterlocklaw11_shown.calls (k : Nat)  (r : Bool) (w : World) (h : letterlocklaw11_shown.f k  = some r) (hV : Laid8 w) :
  Calls Tryz.prog 4 #[] w fun e w' => e = .returned (.bool r) ∧ Below w.heap.size w w' := by
 have HV := Aside0.mk hV
 clear hV
 have hu24 := Tryz.underlying24
 have HB := Aside0.mk (Below.refl w.heap.size w)
 unfold letterlocklaw11_shown.f at h
 have H := h
 clear h
 replace H := Option.bind_eq_some_iff.mp H
 obtain ⟨⟨t286, t287, t288, t289, t290, t291⟩, A10, H⟩ := H
 try dsimp only at H
 have A1 := Aside0.mk A10
 clear A10
 replace H := Option.bind_eq_some_iff.mp H
 obtain ⟨t293, A20, H⟩ := H
 try dsimp only at H
 have A2 := Aside0.mk A20
 clear A20
 replace H := Option.bind_eq_some_iff.mp H
 obtain ⟨⟨t294, t295, t296, t297, t298, t299⟩, A30, H⟩ := H
 try dsimp only at H
 have A3 := Aside0.mk A30
 clear A30
 by_cases c4 : t291 = 2
 ·rw [if_pos c4] at H
  have c4b0 : (t291 == 2) = true := beq_iff_eq.mpr c4
  have c4b1 : (t291 != 2) = false := bne_eq_false_iff_eq.mpr c4
  clear c4
  by_cases c5 : t299 = 0
  ·rw [if_pos c5] at H
   have c5b0 : (t299 == 0) = true := beq_iff_eq.mpr c5
   have c5b1 : (t299 != 0) = false := bne_eq_false_iff_eq.mpr c5
   clear c5
   replace H := Option.bind_eq_some_iff.mp H
   obtain ⟨t301, A60, H⟩ := H
   try dsimp only at H
   have A6 := Aside0.mk A60
   clear A60
   replace H := Option.bind_eq_some_iff.mp H
   obtain ⟨t302, A70, H⟩ := H
   try dsimp only at H
   have A7 := Aside0.mk A70
   clear A70
   obtain rfl := Option.some.inj H
   go_enter Tryz.func4, Tryz.ntmps4
   try go_wp2_with (first | ((with_reducible refine gate_callee (f := 11) rfl ?_); refine gL (some 6) Tryz.func11 #[.string (⟨#[]⟩ : ByteArray)] rfl ?_; (with_reducible refine (fresh_Take.calls k (⟨#[]⟩ : ByteArray) t286 t287 t288 t289 t290 t291 _ A1.out ?sidev).mono ?_); (case sidev => exact Laid8.below HV.out bl_); rintro e w8 ⟨rfl, hb⟩; refine ⟨_, rfl, ?_⟩; have n0_ := Aside0.mk (below_step bl_ hb); clear HB; have HB := n0_; clear n0_; (try clear hb)) | ((with_reducible refine gate_dst (N := 1) rfl ?_); refine box_event ?hg (N := 1) ?hd (cs := #[.string (⟨#[]⟩ : ByteArray), .int .u64 0, .int .i64 0, .string (⟨#[]⟩ : ByteArray), .string (⟨#[]⟩ : ByteArray)]) (t := 24) ?hr ?_; (case hd => rfl); (case hg => rfl); (case hr => first | (go_simp; done) | (go_simp; rfl)); intro gb292 hg w9 hbox hb; have n0_ := Aside0.mk (below_step bl_ hb); have n1_ := Aside0.mk (hbox); have n2_ := Aside0.mk ((by rw [hg]; exact (below_size bl_) : w.heap.size ≤ gb292)); have n3_ := Aside0.mk ((by rw [hg]; exact (below_size bl_) : w.heap.size ≤ gb292)); clear HB; have HB := n0_; have BK292 := n1_; have GW292 := n2_; have GE292 := n3_; clear n0_ n1_ n2_ n3_; clear hb hbox hg; have hcz10_0 : w9.cell? ⟨gb292, 0, none⟩ = some (.string (⟨#[]⟩ : ByteArray)) := (blk_cell BK292.out 0).trans rfl; have hcz10_1 : w9.cell? ⟨gb292, 1, none⟩ = some (.int .u64 0) := (blk_cell BK292.out 1).trans rfl; have hcz10_2 : w9.cell? ⟨gb292, 2, none⟩ = some (.int .i64 0) := (blk_cell BK292.out 2).trans rfl; have hcz10_3 : w9.cell? ⟨gb292, 3, none⟩ = some (.string (⟨#[]⟩ : ByteArray)) := (blk_cell BK292.out 3).trans rfl; have hcz10_4 : w9.cell? ⟨gb292, 4, none⟩ = some (.string (⟨#[]⟩ : ByteArray)) := (blk_cell BK292.out 4).trans rfl; have hfz10_0 := blk_frozen BK292.out 0; have hfz10_1 := blk_frozen BK292.out 1; have hfz10_2 := blk_frozen BK292.out 2; have hfz10_3 := blk_frozen BK292.out 3; have hfz10_4 := blk_frozen BK292.out 4) | ((with_reducible refine gate_callee (f := 19) rfl ?_); refine gL (some 10) Tryz.func19 #[.string (⟨#[97, 110, 110, 97]⟩ : ByteArray)] rfl ?_; (with_reducible refine (letterlocklaw11_secretOf.calls k (⟨#[97, 110, 110, 97]⟩ : ByteArray) t293 _ A2.out).mono ?_); rintro e w11 ⟨rfl, hb⟩; refine ⟨_, rfl, ?_⟩; have n0_ := Aside0.mk (blk_below (g := gb292) (o := .cells #[.string t286, .int .u64 t287, .int .i64 t288, .string t289, .string t290] 24 (0, 0)) (by (with_reducible repeat (first | refine blk_drewN ?_ _ | refine blk_drew ?_ | refine blk_alloc ?_ _)); refine blk_put (cs := #[.string t286, .int .u64 t287, .int .i64 t288, .string t289, .string (⟨#[]⟩ : ByteArray)]) ?_ 4 _ rfl; (with_reducible repeat (first | refine blk_drewN ?_ _ | refine blk_drew ?_ | refine blk_alloc ?_ _)); refine blk_put (cs := #[.string t286, .int .u64 t287, .int .i64 t288, .string (⟨#[]⟩ : ByteArray), .string (⟨#[]⟩ : ByteArray)]) ?_ 3 _ rfl; (with_reducible repeat (first | refine blk_drewN ?_ _ | refine blk_drew ?_ | refine blk_alloc ?_ _)); refine blk_put (cs := #[.string t286, .int .u64 t287, .int .i64 0, .string (⟨#[]⟩ : ByteArray), .string (⟨#[]⟩ : ByteArray)]) ?_ 2 _ rfl; (with_reducible repeat (first | refine blk_drewN ?_ _ | refine blk_drew ?_ | refine blk_alloc ?_ _)); refine blk_put (cs := #[.string t286, .int .u64 0, .int .i64 0, .string (⟨#[]⟩ : ByteArray), .string (⟨#[]⟩ : ByteArray)]) ?_ 1 _ rfl; (with_reducible repeat (first | refine blk_drewN ?_ _ | refine blk_drew ?_ | refine blk_alloc ?_ _)); refine blk_put (cs := #[.string (⟨#[]⟩ : ByteArray), .int .u64 0, .int .i64 0, .string (⟨#[]⟩ : ByteArray), .string (⟨#[]⟩ : ByteArray)]) ?_ 0 _ rfl; (with_reducible repeat (first | refine blk_drewN ?_ _ | refine blk_drew ?_ | refine blk_alloc ?_ _)); exact BK292.out) hb); have n1_ := Aside0.mk (below_step bl_ hb); clear BK292; clear HB; have BK292 := n0_; have HB := n1_; clear n0_ n1_; (try clear hb)) | ((with_reducible refine gate_callee (f := 7) rfl ?_); refine gL (some 11) Tryz.func7 #[.string t293, .string (⟨#[97, 110, 110, 97]⟩ : ByteArray), .int .u64 5, .slice none 0 0] rfl ?_; (refine (fresh_Build.calls k t293 (⟨#[97, 110, 110, 97]⟩ : ByteArray) 5 _ _ ([] : List ByteArray) t294 t295 t296 t297 t298 t299 _ ?side1 ?side2 A3.out ?sidev).mono ?_); (case sidev => exact Laid8.below HV.out bl_); (case side1 => exact Kd.C_nil _ _); (case side2 => exact Nat.le_refl _); rintro e w12 ⟨rfl, hb⟩; refine ⟨_, rfl, ?_⟩; have n0_ := Aside0.mk (blk_below (g := gb292) (o := .cells #[.string t286, .int .u64 t287, .int .i64 t288, .string t289, .string t290] 24 (0, 0)) kl_ hb); have n1_ := Aside0.mk (below_step bl_ hb); clear BK292; clear HB; have BK292 := n0_; have HB := n1_; clear n0_ n1_; (try clear hb)) | ((with_reducible refine gate_dst (N := 3) rfl ?_); refine box_event ?hg (N := 3) ?hd (cs := #[.string (⟨#[]⟩ : ByteArray), .int .u64 0, .int .i64 0, .string (⟨#[]⟩ : ByteArray), .string (⟨#[]⟩ : ByteArray)]) (t := 24) ?hr ?_; (case hd => rfl); (case hg => rfl); (case hr => first | (go_simp; done) | (go_simp; rfl)); intro gb300 hg w13 hbox hb; have n0_ := Aside0.mk (blk_below (g := gb292) (o := .cells #[.string t286, .int .u64 t287, .int .i64 t288, .string t289, .string t290] 24 (0, 0)) kl_ hb); have n1_ := Aside0.mk (below_step bl_ hb); have n2_ := Aside0.mk (hbox); have n3_ := Aside0.mk ((by rw [hg]; exact (below_size bl_) : w.heap.size ≤ gb300)); have n4_ := Aside0.mk ((by rw [hg]; exact (below_size bl_) : w.heap.size ≤ gb300)); have n5_ := Aside0.mk ((by rw [hg]; exact Nat.ne_of_lt (blk_lt (g := gb292) (o := .cells #[.string t286, .int .u64 t287, .int .i64 t288, .string t289, .string t290] 24 (0, 0)) kl_) : gb292 ≠ gb300)); have n6_ := Aside0.mk ((by rw [hg]; exact Nat.ne_of_gt (blk_lt (g := gb292) (o := .cells #[.string t286, .int .u64 t287, .int .i64 t288, .string t289, .string t290] 24 (0, 0)) kl_) : gb300 ≠ gb292)); clear BK292; clear HB; have BK292 := n0_; have HB := n1_; have BK300 := n2_; have GW300 := n3_; have GE300 := n4_; have NB292_300 := n5_; have NB300_292 := n6_; clear n0_ n1_ n2_ n3_ n4_ n5_ n6_; clear hb hbox hg; have hnb14 := NB300_292.out; have hnc14 := NB292_300.out; have hcz15_0 : w13.cell? ⟨gb300, 0, none⟩ = some (.string (⟨#[]⟩ : ByteArray)) := (blk_cell BK300.out 0).trans rfl; have hcz15_1 : w13.cell? ⟨gb300, 1, none⟩ = some (.int .u64 0) := (blk_cell BK300.out 1).trans rfl; have hcz15_2 : w13.cell? ⟨gb300, 2, none⟩ = some (.int .i64 0) := (blk_cell BK300.out 2).trans rfl; have hcz15_3 : w13.cell? ⟨gb300, 3, none⟩ = some (.string (⟨#[]⟩ : ByteArray)) := (blk_cell BK300.out 3).trans rfl; have hcz15_4 : w13.cell? ⟨gb300, 4, none⟩ = some (.string (⟨#[]⟩ : ByteArray)) := (blk_cell BK300.out 4).trans rfl; have hfz15_0 := blk_frozen BK300.out 0; have hfz15_1 := blk_frozen BK300.out 1; have hfz15_2 := blk_frozen BK300.out 2; have hfz15_3 := blk_frozen BK300.out 3; have hfz15_4 := blk_frozen BK300.out 4))
   have n0_ : Aside0 ((((((w13.setCell ⟨gb300, 0, none⟩ (.string t294)).setCell ⟨gb300, 1, none⟩ (.int .u64 t295)).setCell ⟨gb300, 2, none⟩ (.int .i64 t296)).setCell ⟨gb300, 3, none⟩ (.string t297)).setCell ⟨gb300, 4, none⟩ (.string t298)).heap[gb292]? = some (.cells #[.string t286, .int .u64 t287, .int .i64 t288, .string t289, .string t290] 24 (0, 0))) := ⟨by (with_reducible repeat (first | refine blk_drewN ?_ _ | refine blk_drew ?_ | refine blk_alloc ?_ _)); refine blk_far ?_ NB292_300.out _; (with_reducible repeat (first | refine blk_drewN ?_ _ | refine blk_drew ?_ | refine blk_alloc ?_ _)); refine blk_far ?_ NB292_300.out _; (with_reducible repeat (first | refine blk_drewN ?_ _ | refine blk_drew ?_ | refine blk_alloc ?_ _)); refine blk_far ?_ NB292_300.out _; (with_reducible repeat (first | refine blk_drewN ?_ _ | refine blk_drew ?_ | refine blk_alloc ?_ _)); refine blk_far ?_ NB292_300.out _; (with_reducible repeat (first | refine blk_drewN ?_ _ | refine blk_drew ?_ | refine blk_alloc ?_ _)); refine blk_far ?_ NB292_300.out _; (with_reducible repeat (first | refine blk_drewN ?_ _ | refine blk_drew ?_ | refine blk_alloc ?_ _)); exact BK292.out⟩
   have n1_ : Aside0 ((((((w13.setCell ⟨gb300, 0, none⟩ (.string t294)).setCell ⟨gb300, 1, none⟩ (.int .u64 t295)).setCell ⟨gb300, 2, none⟩ (.int .i64 t296)).setCell ⟨gb300, 3, none⟩ (.string t297)).setCell ⟨gb300, 4, none⟩ (.string t298)).heap[gb300]? = some (.cells #[.string t294, .int .u64 t295, .int .i64 t296, .string t297, .string t298] 24 (0, 0))) := ⟨by (with_reducible repeat (first | refine blk_drewN ?_ _ | refine blk_drew ?_ | refine blk_alloc ?_ _)); refine blk_put (cs := #[.string t294, .int .u64 t295, .int .i64 t296, .string t297, .string (⟨#[]⟩ : ByteArray)]) ?_ 4 _ rfl; (with_reducible repeat (first | refine blk_drewN ?_ _ | refine blk_drew ?_ | refine blk_alloc ?_ _)); refine blk_put (cs := #[.string t294, .int .u64 t295, .int .i64 t296, .string (⟨#[]⟩ : ByteArray), .string (⟨#[]⟩ : ByteArray)]) ?_ 3 _ rfl; (with_reducible repeat (first | refine blk_drewN ?_ _ | refine blk_drew ?_ | refine blk_alloc ?_ _)); refine blk_put (cs := #[.string t294, .int .u64 t295, .int .i64 0, .string (⟨#[]⟩ : ByteArray), .string (⟨#[]⟩ : ByteArray)]) ?_ 2 _ rfl; (with_reducible repeat (first | refine blk_drewN ?_ _ | refine blk_drew ?_ | refine blk_alloc ?_ _)); refine blk_put (cs := #[.string t294, .int .u64 0, .int .i64 0, .string (⟨#[]⟩ : ByteArray), .string (⟨#[]⟩ : ByteArray)]) ?_ 1 _ rfl; (with_reducible repeat (first | refine blk_drewN ?_ _ | refine blk_drew ?_ | refine blk_alloc ?_ _)); refine blk_put (cs := #[.string (⟨#[]⟩ : ByteArray), .int .u64 0, .int .i64 0, .string (⟨#[]⟩ : ByteArray), .string (⟨#[]⟩ : ByteArray)]) ?_ 0 _ rfl; (with_reducible repeat (first | refine blk_drewN ?_ _ | refine blk_drew ?_ | refine blk_alloc ?_ _)); exact BK300.out⟩
   have n2_ : Aside0 (Below w.heap.size w (((((w13.setCell ⟨gb300, 0, none⟩ (.string t294)).setCell ⟨gb300, 1, none⟩ (.int .u64 t295)).setCell ⟨gb300, 2, none⟩ (.int .i64 t296)).setCell ⟨gb300, 3, none⟩ (.string t297)).setCell ⟨gb300, 4, none⟩ (.string t298))) := ⟨bl_⟩
   (try clear BK292)
   (try clear BK300)
   (try clear HB)
   generalize (((((w13.setCell ⟨gb300, 0, none⟩ (.string t294)).setCell ⟨gb300, 1, none⟩ (.int .u64 t295)).setCell ⟨gb300, 2, none⟩ (.int .i64 t296)).setCell ⟨gb300, 3, none⟩ (.string t297)).setCell ⟨gb300, 4, none⟩ (.string t298)) = w16 at n0_ n1_ n2_ ⊢
   have BK292 := n0_
   have BK300 := n1_
   have HB := n2_
   clear n0_ n1_ n2_
   have n0_ := Aside0.mk (blk_drew BK292.out)
   have n1_ := Aside0.mk (blk_drew BK300.out)
   have n2_ := Aside0.mk (below_drew1 HB.out)
   clear BK292
   clear BK300
   clear HB
   have BK292 := n0_
   have BK300 := n1_
   have HB := n2_
   clear n0_ n1_ n2_
   refine start_ (n := 13) (S := fun w' => w'.cell? ⟨gb300, 0, none⟩ = some (.string t294) ∧ w'.cell? ⟨gb300, 1, none⟩ = some (.int .u64 t295) ∧ w'.cell? ⟨gb300, 2, none⟩ = some (.int .i64 t296) ∧ w'.cell? ⟨gb300, 3, none⟩ = some (.string t297) ∧ w'.cell? ⟨gb300, 4, none⟩ = some (.string t298)) (ds := []) #[false, false, false, false, false, false, false, false, false, false, false, false, false] (by kernel_rfl) rfl rfl ⟨(blk_cell BK300.out 0).trans rfl, (blk_cell BK300.out 1).trans rfl, (blk_cell BK300.out 2).trans rfl, (blk_cell BK300.out 3).trans rfl, (blk_cell BK300.out 4).trans rfl⟩ (fun hHeld => ?_); refine with_tabW letterlocklaw11_shown.tab3 letterlocklaw11_shown.bits3 (fun HT_ HW_ => ?_)
   generalize w16.drew = w17 at BK292 BK300 HB hHeld ⊢
   refine pS (i := 0) (N := some 14) (bn 13 1) rfl HT_.out ?_
   refine pS (i := 1) (N := some 15) (bn 13 3) rfl HT_.out ?_
   refine pS (i := 2) (N := some 16) (bn 13 7) rfl HT_.out ?_
   refine pS (i := 3) (N := some 17) (bn 13 15) rfl HT_.out ?_
   refine pS (i := 4) (N := some 18) (bn 13 31) rfl HT_.out ?_
   refine pS (i := 5) (N := some 19) (bn 13 63) rfl HT_.out ?_
   refine pS (i := 6) (N := some 20) (bn 13 127) rfl HT_.out ?_
   refine tS (i := 7) (N := some 21) (bn 13 255) rfl HT_.out HW_.out hHeld (fun w' ⟨s0, s1, s2, s3, s4⟩ => by go_simp; with_reducible rfl) ?_
   refine oS (i := 8) (N := some 22) (bn 13 511) rfl HT_.out (fun K hK => ?_)
   refine gS Tryz.func20 #[.string (⟨#[97, 110, 110, 97]⟩ : ByteArray)] rfl ?_
   with_reducible refine (letterlocklaw11_publicOf.calls k (⟨#[97, 110, 110, 97]⟩ : ByteArray) t301 _ A6.out).mono ?_
   rintro e w18 ⟨rfl, hb⟩
   refine ⟨_, rfl, ?_⟩
   have n0_ := Aside0.mk (blk_below (g := gb292) (o := .cells #[.string t286, .int .u64 t287, .int .i64 t288, .string t289, .string t290] 24 (0, 0)) kl_ hb)
   have n1_ := Aside0.mk (blk_below (g := gb300) (o := .cells #[.string t294, .int .u64 t295, .int .i64 t296, .string t297, .string t298] 24 (0, 0)) kl_ hb)
   have n2_ := Aside0.mk (below_step bl_ hb)
   clear BK292
   clear BK300
   clear HB
   have BK292 := n0_
   have BK300 := n1_
   have HB := n2_
   clear n0_ n1_ n2_
   (try clear hb)
   (try clear hb2)
   (try clear hk)
   (try clear hi)
   refine hK.out _ _ ⟨(blk_cell BK300.out 0).trans rfl, (blk_cell BK300.out 1).trans rfl, (blk_cell BK300.out 2).trans rfl, (blk_cell BK300.out 3).trans rfl, (blk_cell BK300.out 4).trans rfl⟩ (fun hHeld => ?_)
   clear hK K
   refine nS (some 22) ?_
   refine oS (i := 9) (N := some 23) (bn 13 1023) rfl HT_.out (fun K hK => ?_)
   refine gS Tryz.func15 #[.agg #[.string t294, .int .u64 t295, .int .i64 t296, .string t297, .string t298], .string t301, .string (⟨#[97, 110, 110, 97]⟩ : ByteArray), .int .u64 6, .int .u64 1] rfl ?_
   with_reducible refine (fresh_Check.calls k t294 t295 t296 t297 t298 t301 (⟨#[97, 110, 110, 97]⟩ : ByteArray) 6 1 t302 _ A7.out ?sidev).mono ?_
   case sidev => exact Laid8.below HV.out bl_
   rintro e w19 ⟨rfl, hb⟩
   refine ⟨_, rfl, ?_⟩
   have n0_ := Aside0.mk (blk_below (g := gb292) (o := .cells #[.string t286, .int .u64 t287, .int .i64 t288, .string t289, .string t290] 24 (0, 0)) kl_ hb)
   have n1_ := Aside0.mk (blk_below (g := gb300) (o := .cells #[.string t294, .int .u64 t295, .int .i64 t296, .string t297, .string t298] 24 (0, 0)) kl_ hb)
   have n2_ := Aside0.mk (below_step bl_ hb)
   clear BK292
   clear BK300
   clear HB
   have BK292 := n0_
   have BK300 := n1_
   have HB := n2_
   clear n0_ n1_ n2_
   (try clear hb)
   (try clear hb2)
   (try clear hk)
   (try clear hi)
   refine hK.out _ _ ⟨(blk_cell BK300.out 0).trans rfl, (blk_cell BK300.out 1).trans rfl, (blk_cell BK300.out 2).trans rfl, (blk_cell BK300.out 3).trans rfl, (blk_cell BK300.out 4).trans rfl⟩ (fun hHeld => ?_)
   clear hK K
   refine nS (some 23) ?_
   refine pS (i := 10) (N := some 24) (bn 13 2047) rfl HT_.out ?_
   refine pS (i := 11) (N := some 25) (bn 13 4095) rfl HT_.out ?_
   refine pS (i := 12) (N := some 0) (bn 13 8191) rfl HT_.out ?_
   refine done_ (done_of HT_.out (by kernel_rfl)) ?_
   try go_wp2
   go_ret
   exact ⟨eq_, bl_⟩
  ·rw [if_neg c5] at H
   exact absurd H (by simp)
 ·rw [if_neg c4] at H
  exact absurd H (by simp)
def letterlocklaw11_light.l0 : Nat → List ByteArray → Int → Int → Option (Bool)
 | 0, _, _, _ => none
 | k + 1, x0, x3, x4 => if x4 < (x0.length : Int) then (if 0 ≤ x4 then (letterlocklaw11_light.l0 k x0 (wrap64 (x3 + ((rdOf ByteArray.empty x0 x4).size : Int))) (wrap64 (x4 + 1))) else (none)) else (if (x0.length : Int) ≤ 20 then (some (decide (x3 ≤ 6000))) else (some false))
def letterlocklaw11_light.f (k : Nat) (l0 : List ByteArray) : Option (Bool) := letterlocklaw11_light.l0 k l0 0 0
set_option maxHeartbeats 8000000 in
set_option maxRecDepth 100000 in
theorem letterlocklaw11_light.calls (k : Nat) (A0 : Option Addr) (c0 : Nat) (l0 : List ByteArray) (r : Bool) (w : World) (hr0 : Kd.C Kd.string w A0 l0.length l0) (hc0 : l0.length ≤ c0) (h : letterlocklaw11_light.f k l0 = some r) :
  Calls Tryz.prog 5 #[.slice A0 l0.length c0] w fun e w' => e = .returned (.bool r) ∧ Drawn0 w w' := by
 have HR0 := Aside0.mk hr0
 have HC0 := Aside0.mk hc0
 clear hr0 hc0
 unfold letterlocklaw11_light.f at h
 have H := h
 clear h
 have H' := Aside0.mk H
 clear H
 go_enter Tryz.func5, Tryz.ntmps5
 go_wp2
 go_loopg [3, 4] k (fun kq v3 v4 w' => ∃ (x3_1 : Int) (x4_1 : Int), v3 = .int .i64 x3_1 ∧ v4 = .int .i64 x4_1 ∧ Aside0 (letterlocklaw11_light.l0 kq l0 x3_1 x4_1 = some r) ∧ Aside0 (kq ≤ k) ∧ Drawn0 w w')
 case atStart => exact ⟨(0), (0), es_, es_, H', ⟨Nat.le_refl _⟩, by repeat (first | exact Drawn0.refl _ | apply Drawn0.step)⟩
 case round =>
  clear H'
  obtain ⟨x3_1, x4_1, rfl, rfl, HA, HK1, ⟨m1, rfl⟩⟩ := hrel
  cases gk with
  | zero => exact absurd HA.out (by simp [letterlocklaw11_light.l0])
  | succ k1 =>
   have H := HA.out
   clear HA
   simp only [letterlocklaw11_light.l0] at H
   by_cases c2 : x4_1 < (l0.length : Int)
   ·rw [if_pos c2] at H
    have c2b0 : decide (x4_1 < (l0.length : Int)) = true := decide_eq_true c2
    clear c2
    by_cases c3 : 0 ≤ x4_1
    ·rw [if_pos c3] at H
     have c3b0 : decide (0 ≤ x4_1) = true := decide_eq_true c3
     clear c3
     have H' := Aside0.mk H
     clear H
     have p303 : 0 ≤ (x4_1 : Int) := of_decide_eq_true (by first | (with_reducible assumption) | assumption)
     have q303 : x4_1 < (l0.length : Int) := of_decide_eq_true (by first | (with_reducible assumption) | assumption)
     obtain ⟨ad303, e303, hx303_0⟩ := Kd.at_string HR0.out x4_1 p303 q303
     cases e303
     replace p303 := eq_true p303
     replace q303 := eq_true q303
     go_wp2
     go_roundg k1
     case measure => have := HK1.out; omega
     case rel => exact ⟨(wrap64 (x3_1 + ((rdOf ByteArray.empty l0 x4_1).size : Int))), (wrap64 (x4_1 + 1)), es_, es_, H', ⟨by have := HK1.out; omega⟩, by repeat (first | exact Drawn0.refl _ | apply Drawn0.step)⟩
    ·rw [if_neg c3] at H
     exact absurd H (by simp)
   ·rw [if_neg c2] at H
    have c2b0 : decide (x4_1 < (l0.length : Int)) = false := decide_eq_false c2
    clear c2
    by_cases c4 : (l0.length : Int) ≤ 20
    ·rw [if_pos c4] at H
     have c4b0 : decide ((l0.length : Int) ≤ 20) = true := decide_eq_true c4
     have c4b1 : decide (l0.length ≤ 20) = true := decide_eq_true (by omega)
     clear c4
     obtain rfl := Option.some.inj H
     go_wp2
     go_ret
     exact ⟨by first | rfl | (simp; done) | (simp [*]; done), by repeat (first | exact Drawn0.refl _ | apply Drawn0.step)⟩
    ·rw [if_neg c4] at H
     have c4b0 : decide ((l0.length : Int) ≤ 20) = false := decide_eq_false c4
     have c4b1 : decide (l0.length ≤ 20) = false := decide_eq_false (by omega)
     clear c4
     obtain rfl := Option.some.inj H
     go_wp2
     go_ret
     exact ⟨by first | rfl | (simp; done) | (simp [*]; done), by repeat (first | exact Drawn0.refl _ | apply Drawn0.step)⟩
def letterlocklaw11_as.f (a0_0 : ByteArray) (a0_1 : Int) (a0_2 : Int) (a0_3 : ByteArray) (a0_4 : ByteArray) : Option (ByteArray × Int × Int × ByteArray × ByteArray) := some (a0_0, a0_1, a0_2, a0_3, a0_4)
set_option maxHeartbeats 8000000 in
set_option maxRecDepth 100000 in
theorem letterlocklaw11_as.calls (a0_0 : ByteArray) (a0_1 : Int) (a0_2 : Int) (a0_3 : ByteArray) (a0_4 : ByteArray) (r1 : ByteArray) (r2 : Int) (r3 : Int) (r4 : ByteArray) (r5 : ByteArray) (w : World) (h : letterlocklaw11_as.f a0_0 a0_1 a0_2 a0_3 a0_4 = some (r1, r2, r3, r4, r5)) :
  Calls Tryz.prog 6 #[.agg #[.string a0_0, .int .u64 a0_1, .int .i64 a0_2, .string a0_3, .string a0_4]] w fun e w' => e = .returned (.agg #[.string r1, .int .u64 r2, .int .i64 r3, .string r4, .string r5]) ∧ Below w.heap.size w w' := by
 have hu24 := Tryz.underlying24
 have hu28 := Tryz.underlying28
 have HB := Aside0.mk (Below.refl w.heap.size w)
 unfold letterlocklaw11_as.f at h
 have H := h
 clear h
 simp only [Option.some.injEq, Prod.mk.injEq] at H
 obtain ⟨rfl, rfl, rfl, rfl, rfl⟩ := H
 go_enter Tryz.func6, Tryz.ntmps6
 go_wp2_with (first | ((with_reducible refine gate_dst (N := 1) rfl ?_); refine box_event ?hg (N := 1) ?hd (cs := #[.string a0_0, .int .u64 a0_1, .int .i64 a0_2, .string a0_3, .string a0_4]) (t := 24) ?hr ?_; (case hd => rfl); (case hg => rfl); (case hr => first | (go_simp; done) | (go_simp; rfl)); intro gb304 hg w2 hbox hb; have n0_ := Aside0.mk (below_step bl_ hb); have n1_ := Aside0.mk (hbox); have n2_ := Aside0.mk ((by rw [hg]; exact (below_size bl_) : w.heap.size ≤ gb304)); have n3_ := Aside0.mk ((by rw [hg]; exact (below_size bl_) : w.heap.size ≤ gb304)); clear HB; have HB := n0_; have BK304 := n1_; have GW304 := n2_; have GE304 := n3_; clear n0_ n1_ n2_ n3_; clear hb hbox hg) | ((with_reducible refine gate_dst (N := 2) rfl ?_); refine box_event ?hg (N := 2) ?hd (cs := #[.string (⟨#[]⟩ : ByteArray), .int .u64 0, .int .i64 0, .string (⟨#[]⟩ : ByteArray), .string (⟨#[]⟩ : ByteArray)]) (t := 28) ?hr ?_; (case hd => rfl); (case hg => rfl); (case hr => first | (go_simp; done) | (go_simp; rfl)); intro gb305 hg w3 hbox hb; have n0_ := Aside0.mk (blk_below (g := gb304) (o := .cells #[.string a0_0, .int .u64 a0_1, .int .i64 a0_2, .string a0_3, .string a0_4] 24 (0, 0)) kl_ hb); have n1_ := Aside0.mk (below_step bl_ hb); have n2_ := Aside0.mk (hbox); have n3_ := Aside0.mk ((by rw [hg]; exact (below_size bl_) : w.heap.size ≤ gb305)); have n4_ := Aside0.mk ((by rw [hg]; exact (below_size bl_) : w.heap.size ≤ gb305)); have n5_ := Aside0.mk ((by rw [hg]; exact Nat.ne_of_lt (blk_lt (g := gb304) (o := .cells #[.string a0_0, .int .u64 a0_1, .int .i64 a0_2, .string a0_3, .string a0_4] 24 (0, 0)) kl_) : gb304 ≠ gb305)); have n6_ := Aside0.mk ((by rw [hg]; exact Nat.ne_of_gt (blk_lt (g := gb304) (o := .cells #[.string a0_0, .int .u64 a0_1, .int .i64 a0_2, .string a0_3, .string a0_4] 24 (0, 0)) kl_) : gb305 ≠ gb304)); clear BK304; clear HB; have BK304 := n0_; have HB := n1_; have BK305 := n2_; have GW305 := n3_; have GE305 := n4_; have NB304_305 := n5_; have NB305_304 := n6_; clear n0_ n1_ n2_ n3_ n4_ n5_ n6_; clear hb hbox hg; have hnb4 := NB304_305.out; have hnc4 := NB305_304.out; have hcz5_0 : w3.cell? ⟨gb304, 0, none⟩ = some (.string a0_0) := (blk_cell BK304.out 0).trans rfl; have hcz5_1 : w3.cell? ⟨gb304, 1, none⟩ = some (.int .u64 a0_1) := (blk_cell BK304.out 1).trans rfl; have hcz5_2 : w3.cell? ⟨gb304, 2, none⟩ = some (.int .i64 a0_2) := (blk_cell BK304.out 2).trans rfl; have hcz5_3 : w3.cell? ⟨gb304, 3, none⟩ = some (.string a0_3) := (blk_cell BK304.out 3).trans rfl; have hcz5_4 : w3.cell? ⟨gb304, 4, none⟩ = some (.string a0_4) := (blk_cell BK304.out 4).trans rfl; have hfz5_0 := blk_frozen BK304.out 0; have hfz5_1 := blk_frozen BK304.out 1; have hfz5_2 := blk_frozen BK304.out 2; have hfz5_3 := blk_frozen BK304.out 3; have hfz5_4 := blk_frozen BK304.out 4; have hcz6_0 : w3.cell? ⟨gb305, 0, none⟩ = some (.string (⟨#[]⟩ : ByteArray)) := (blk_cell BK305.out 0).trans rfl; have hcz6_1 : w3.cell? ⟨gb305, 1, none⟩ = some (.int .u64 0) := (blk_cell BK305.out 1).trans rfl; have hcz6_2 : w3.cell? ⟨gb305, 2, none⟩ = some (.int .i64 0) := (blk_cell BK305.out 2).trans rfl; have hcz6_3 : w3.cell? ⟨gb305, 3, none⟩ = some (.string (⟨#[]⟩ : ByteArray)) := (blk_cell BK305.out 3).trans rfl; have hcz6_4 : w3.cell? ⟨gb305, 4, none⟩ = some (.string (⟨#[]⟩ : ByteArray)) := (blk_cell BK305.out 4).trans rfl; have hfz6_0 := blk_frozen BK305.out 0; have hfz6_1 := blk_frozen BK305.out 1; have hfz6_2 := blk_frozen BK305.out 2; have hfz6_3 := blk_frozen BK305.out 3; have hfz6_4 := blk_frozen BK305.out 4))
 refine bodyPost_ret (results_cell_row rfl _ _ gb305 28 #[.string a0_0, .int .u64 a0_1, .int .i64 a0_2, .string a0_3, .string a0_4] (0, 0) _ rfl (by (with_reducible repeat (first | refine blk_drewN ?_ _ | refine blk_drew ?_ | refine blk_alloc ?_ _)); refine blk_put (cs := #[.string a0_0, .int .u64 a0_1, .int .i64 a0_2, .string a0_3, .string (⟨#[]⟩ : ByteArray)]) ?_ 4 _ rfl; (with_reducible repeat (first | refine blk_drewN ?_ _ | refine blk_drew ?_ | refine blk_alloc ?_ _)); refine blk_put (cs := #[.string a0_0, .int .u64 a0_1, .int .i64 a0_2, .string (⟨#[]⟩ : ByteArray), .string (⟨#[]⟩ : ByteArray)]) ?_ 3 _ rfl; (with_reducible repeat (first | refine blk_drewN ?_ _ | refine blk_drew ?_ | refine blk_alloc ?_ _)); refine blk_put (cs := #[.string a0_0, .int .u64 a0_1, .int .i64 0, .string (⟨#[]⟩ : ByteArray), .string (⟨#[]⟩ : ByteArray)]) ?_ 2 _ rfl; (with_reducible repeat (first | refine blk_drewN ?_ _ | refine blk_drew ?_ | refine blk_alloc ?_ _)); refine blk_put (cs := #[.string a0_0, .int .u64 0, .int .i64 0, .string (⟨#[]⟩ : ByteArray), .string (⟨#[]⟩ : ByteArray)]) ?_ 1 _ rfl; (with_reducible repeat (first | refine blk_drewN ?_ _ | refine blk_drew ?_ | refine blk_alloc ?_ _)); refine blk_put (cs := #[.string (⟨#[]⟩ : ByteArray), .int .u64 0, .int .i64 0, .string (⟨#[]⟩ : ByteArray), .string (⟨#[]⟩ : ByteArray)]) ?_ 0 _ rfl; (with_reducible repeat (first | refine blk_drewN ?_ _ | refine blk_drew ?_ | refine blk_alloc ?_ _)); exact BK305.out) Tryz.underlying28 rfl (by kernel_rfl)) rfl ?_
 exact ⟨eq_, bl_⟩
end Go.Proofs.YtodiffgpefidoaaGreatDoor.P

