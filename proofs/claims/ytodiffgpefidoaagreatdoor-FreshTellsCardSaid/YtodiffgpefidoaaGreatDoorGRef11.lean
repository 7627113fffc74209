/- Slimmed by wip/slim.py. -/
import Derived.Test.YtodiffgpefidoaaGreatDoorG0
import Derived.Test.YtodiffgpefidoaaGreatDoorGRef1
import Derived.Test.YtodiffgpefidoaaGreatDoorGRef10
import Derived.Test.YtodiffgpefidoaaGreatDoorGRef3
namespace Go.Proofs.YtodiffgpefidoaaGreatDoor.P
open Go.RowKit Go.Proofs.YtodiffgpefidoaaGreatDoorW.PrintWords Go.Proofs.YtodiffgpefidoaaGreatDoorW.PrintLast Go.Proofs.YtodiffgpefidoaaGreatDoorW.PrintMore
attribute [local go_sem] max2_int min2_int max_two min_two max_three min_three max_four min_four
set_option linter.unusedVariables false
set_option linter.unusedSimpArgs false
def letterlockref11_signed.f (k : Nat) (a0_0 : ByteArray) (a0_1 : Int) (a0_2 : Int) (a0_3 : ByteArray) (a0_4 : ByteArray) : Option (ByteArray × Int) := (letterlockref3_OfAtom.f k (IntKind.u64.wrap (a0_2))).bind fun t359 => ((letterlockref3_OfPair.f k t359 a0_3).bind fun bt360 => (if bt360.2 = 0 then ((letterlockref3_OfAtom.f k a0_1).bind fun t362 => ((letterlockref3_OfPair.f k t362 bt360.1).bind fun bt363 => (if bt363.2 = 0 then ((letterlockref3_OfText.f k a0_0).bind fun bt365 => ((letterlockref3_OfPair.f k bt365.1 bt363.1).bind fun bt367 => (some (bt367.1, bt367.2)))) else (some ((⟨#[]⟩ : ByteArray), bt363.2))))) else (some ((⟨#[]⟩ : ByteArray), bt360.2))))
def letterlockref11_signed.T1 : Bool × List (List Nat × List Nat) := (true, [([], []), ([0], [0]), ([1], [1]), ([2], [2]), ([], []), ([4], [4]), ([3, 5, 3], [3, 5]), ([6], [6]), ([7], [7]), ([7], [7]), ([8, 6, 0, 1, 2, 3, 4, 5, 6, 7, 8], [8]), ([9, 10, 0, 1, 2, 3, 4, 5, 6, 7, 8, 9, 10], [9])])
def letterlockref11_signed.B1 : List Nat := [0, 1, 3, 7, 0, 16, 63, 127, 255, 255, 511, 2047]
theorem letterlockref11_signed.tab1 : rtab .any (opsOf Tryz.f31 1) = letterlockref11_signed.T1 := by kernel_rfl
theorem letterlockref11_signed.bits1 : waitsOk letterlockref11_signed.T1.2 letterlockref11_signed.B1 = true := by kernel_rfl
set_option maxHeartbeats 8000000 in
set_option maxRecDepth 100000 in
theorem letterlockref11_signed.calls (k : Nat) (a0_0 : ByteArray) (a0_1 : Int) (a0_2 : Int) (a0_3 : ByteArray) (a0_4 : ByteArray) (r1 : ByteArray) (r2 : Int) (w : World) (h : letterlockref11_signed.f k a0_0 a0_1 a0_2 a0_3 a0_4 = some (r1, r2)) :
  Calls Tryz.prog 31 #[.agg #[.string a0_0, .int .u64 a0_1, .int .i64 a0_2, .string a0_3, .string a0_4]] w fun e w' => e = .returned (.tuple #[.string r1, .int .i64 r2]) ∧ Below w.heap.size w w' := by
 have hu28 := Tryz.underlying28
 have HB := Aside0.mk (Below.refl w.heap.size w)
 unfold letterlockref11_signed.f at h
 have H := h
 clear h
 replace H := Option.bind_eq_some_iff.mp H
 obtain ⟨t359, A20, H⟩ := H
 try dsimp only at H
 have A2 := Aside0.mk A20
 clear A20
 replace H := Option.bind_eq_some_iff.mp H
 obtain ⟨⟨t360, t361⟩, A30, H⟩ := H
 try dsimp only at H
 have A3 := Aside0.mk A30
 clear A30
 by_cases c4 : t361 = 0
 ·rw [if_pos c4] at H
  have c4b0 : (t361 == 0) = true := beq_iff_eq.mpr c4
  have c4b1 : (t361 != 0) = false := bne_eq_false_iff_eq.mpr c4
  clear c4
  replace H := Option.bind_eq_some_iff.mp H
  obtain ⟨t362, A50, H⟩ := H
  try dsimp only at H
  have A5 := Aside0.mk A50
  clear A50
  replace H := Option.bind_eq_some_iff.mp H
  obtain ⟨⟨t363, t364⟩, A60, H⟩ := H
  try dsimp only at H
  have A6 := Aside0.mk A60
  clear A60
  by_cases c7 : t364 = 0
  ·rw [if_pos c7] at H
   have c7b0 : (t364 == 0) = true := beq_iff_eq.mpr c7
   have c7b1 : (t364 != 0) = false := bne_eq_false_iff_eq.mpr c7
   clear c7
   replace H := Option.bind_eq_some_iff.mp H
   obtain ⟨⟨t365, t366⟩, A80, H⟩ := H
   try dsimp only at H
   have A8 := Aside0.mk A80
   clear A80
   replace H := Option.bind_eq_some_iff.mp H
   obtain ⟨⟨t367, t368⟩, A90, H⟩ := H
   try dsimp only at H
   have A9 := Aside0.mk A90
   clear A90
   simp only [Option.some.injEq, Prod.mk.injEq] at H
   obtain ⟨rfl, rfl⟩ := H
   go_enter Tryz.func31, Tryz.ntmps31
   try go_wp2_with (first | ((with_reducible refine gate_dst (N := 1) rfl ?_); refine box_event ?hg (N := 1) ?hd (cs := #[.string a0_0, .int .u64 a0_1, .int .i64 a0_2, .string a0_3, .string a0_4]) (t := 28) ?hr ?_; (case hd => rfl); (case hg => rfl); (case hr => first | (go_simp; done) | (go_simp; rfl)); intro gb358 hg w10 hbox hb; have n0_ := Aside0.mk (below_step bl_ hb); have n1_ := Aside0.mk (hbox); have n2_ := Aside0.mk ((by rw [hg]; exact (below_size bl_) : w.heap.size ≤ gb358)); have n3_ := Aside0.mk ((by rw [hg]; exact (below_size bl_) : w.heap.size ≤ gb358)); clear HB; have HB := n0_; have BK358 := n1_; have GW358 := n2_; have GE358 := n3_; clear n0_ n1_ n2_ n3_; clear hb hbox hg))
   have n0_ := Aside0.mk (blk_drew BK358.out)
   have n1_ := Aside0.mk (below_drew1 HB.out)
   clear BK358
   clear HB
   have BK358 := n0_
   have HB := n1_
   clear n0_ n1_
   refine start_ (n := 12) (S := fun w' => w'.cell? ⟨gb358, 0, none⟩ = some (.string a0_0) ∧ w'.cell? ⟨gb358, 1, none⟩ = some (.int .u64 a0_1) ∧ w'.cell? ⟨gb358, 2, none⟩ = some (.int .i64 a0_2) ∧ w'.cell? ⟨gb358, 3, none⟩ = some (.string a0_3) ∧ w'.cell? ⟨gb358, 4, none⟩ = some (.string a0_4)) (ds := []) #[false, false, false, false, false, false, false, false, false, false, false, false] (by kernel_rfl) rfl rfl ⟨(blk_cell BK358.out 0).trans rfl, (blk_cell BK358.out 1).trans rfl, (blk_cell BK358.out 2).trans rfl, (blk_cell BK358.out 3).trans rfl, (blk_cell BK358.out 4).trans rfl⟩ (fun hHeld => ?_); refine with_tabW letterlockref11_signed.tab1 letterlockref11_signed.bits1 (fun HT_ HW_ => ?_)
   generalize w10.drew = w11 at BK358 HB hHeld ⊢
   refine pS (i := 0) (N := some 9) (bn 12 1) rfl HT_.out ?_
   refine pS (i := 4) (N := some 13) (bn 12 17) rfl HT_.out ?_
   refine tS (i := 1) (N := some 10) (bn 12 19) rfl HT_.out HW_.out hHeld (fun w' ⟨s0, s1, s2, s3, s4⟩ => by go_simp; with_reducible rfl) ?_
   refine pS (i := 2) (N := some 11) (bn 12 23) rfl HT_.out ?_
   refine tS (i := 5) (N := some 14) (bn 12 55) rfl HT_.out HW_.out hHeld (fun w' ⟨s0, s1, s2, s3, s4⟩ => by go_simp; with_reducible rfl) ?_
   refine oS (i := 3) (N := some 12) (bn 12 63) rfl HT_.out (fun K hK => ?_)
   refine gS Tryz.func67 #[.int .u64 (IntKind.u64.wrap (a0_2))] rfl ?_
   with_reducible refine (letterlockref3_OfAtom.calls k (IntKind.u64.wrap (a0_2)) t359 _ A2.out).mono ?_
   rintro e w12 ⟨rfl, hb⟩
   refine ⟨_, rfl, ?_⟩
   have n0_ := Aside0.mk (blk_below (g := gb358) (o := .cells #[.string a0_0, .int .u64 a0_1, .int .i64 a0_2, .string a0_3, .string a0_4] 28 (0, 0)) kl_ hb)
   have n1_ := Aside0.mk (below_step bl_ hb)
   clear BK358
   clear HB
   have BK358 := n0_
   have HB := n1_
   clear n0_ n1_
   (try clear hb)
   (try clear hb2)
   (try clear hk)
   (try clear hi)
   refine hK.out _ _ ⟨(blk_cell BK358.out 0).trans rfl, (blk_cell BK358.out 1).trans rfl, (blk_cell BK358.out 2).trans rfl, (blk_cell BK358.out 3).trans rfl, (blk_cell BK358.out 4).trans rfl⟩ (fun hHeld => ?_)
   clear hK K
   refine nS (some 12) ?_
   refine oS (i := 6) (N := some 15) (bn 12 127) rfl HT_.out (fun K hK => ?_)
   refine gS Tryz.func66 #[.string t359, .string a0_3] rfl ?_
   with_reducible refine (letterlockref3_OfPair.calls k t359 a0_3 t360 t361 _ A3.out).mono ?_
   rintro e w13 ⟨rfl, hb⟩
   refine ⟨_, rfl, ?_⟩
   have n0_ := Aside0.mk (blk_below (g := gb358) (o := .cells #[.string a0_0, .int .u64 a0_1, .int .i64 a0_2, .string a0_3, .string a0_4] 28 (0, 0)) kl_ hb)
   have n1_ := Aside0.mk (below_step bl_ hb)
   clear BK358
   clear HB
   have BK358 := n0_
   have HB := n1_
   clear n0_ n1_
   (try clear hb)
   (try clear hb2)
   (try clear hk)
   (try clear hi)
   refine hK.out _ _ ⟨(blk_cell BK358.out 0).trans rfl, (blk_cell BK358.out 1).trans rfl, (blk_cell BK358.out 2).trans rfl, (blk_cell BK358.out 3).trans rfl, (blk_cell BK358.out 4).trans rfl⟩ (fun hHeld => ?_)
   clear hK K
   refine nS (some 15) ?_
   refine pS (i := 7) (N := some 8) (bn 12 255) rfl HT_.out ?_
   refine pS (i := 8) (N := some 16) (bn 12 511) rfl HT_.out ?_
   refine pS (i := 9) (N := some 17) (bn 12 1023) rfl HT_.out ?_
   refine pS (i := 10) (N := some 4) (bn 12 2047) rfl HT_.out ?_
   refine pS (i := 11) (N := some 5) (bn 12 4095) rfl HT_.out ?_
   refine done_ (done_of HT_.out (by kernel_rfl)) ?_
   have hcz14_0 : w13.cell? ⟨gb358, 0, none⟩ = some (.string a0_0) := (blk_cell BK358.out 0).trans rfl
   have hcz14_1 : w13.cell? ⟨gb358, 1, none⟩ = some (.int .u64 a0_1) := (blk_cell BK358.out 1).trans rfl
   have hcz14_2 : w13.cell? ⟨gb358, 2, none⟩ = some (.int .i64 a0_2) := (blk_cell BK358.out 2).trans rfl
   have hcz14_3 : w13.cell? ⟨gb358, 3, none⟩ = some (.string a0_3) := (blk_cell BK358.out 3).trans rfl
   have hcz14_4 : w13.cell? ⟨gb358, 4, none⟩ = some (.string a0_4) := (blk_cell BK358.out 4).trans rfl
   have hfz14_0 := blk_frozen BK358.out 0
   have hfz14_1 := blk_frozen BK358.out 1
   have hfz14_2 := blk_frozen BK358.out 2
   have hfz14_3 := blk_frozen BK358.out 3
   have hfz14_4 := blk_frozen BK358.out 4
   try go_wp2_with (first | ((with_reducible refine gate_callee (f := 67) rfl ?_); refine gL (some 24) Tryz.func67 #[.int .u64 a0_1] rfl ?_; (with_reducible refine (letterlockref3_OfAtom.calls k a0_1 t362 _ A5.out).mono ?_); rintro e w15 ⟨rfl, hb⟩; refine ⟨_, rfl, ?_⟩; have n0_ := Aside0.mk (blk_below (g := gb358) (o := .cells #[.string a0_0, .int .u64 a0_1, .int .i64 a0_2, .string a0_3, .string a0_4] 28 (0, 0)) kl_ hb); have n1_ := Aside0.mk (below_step bl_ hb); clear BK358; clear HB; have BK358 := n0_; have HB := n1_; clear n0_ n1_; (try clear hb)) | ((with_reducible refine gate_callee (f := 66) rfl ?_); refine gL (some 26) Tryz.func66 #[.string t362, .string t360] rfl ?_; (with_reducible refine (letterlockref3_OfPair.calls k t362 t360 t363 t364 _ A6.out).mono ?_); rintro e w16 ⟨rfl, hb⟩; refine ⟨_, rfl, ?_⟩; have n0_ := Aside0.mk (blk_below (g := gb358) (o := .cells #[.string a0_0, .int .u64 a0_1, .int .i64 a0_2, .string a0_3, .string a0_4] 28 (0, 0)) kl_ hb); have n1_ := Aside0.mk (below_step bl_ hb); clear BK358; clear HB; have BK358 := n0_; have HB := n1_; clear n0_ n1_; (try clear hb); have hcz17_0 : w16.cell? ⟨gb358, 0, none⟩ = some (.string a0_0) := (blk_cell BK358.out 0).trans rfl; have hcz17_1 : w16.cell? ⟨gb358, 1, none⟩ = some (.int .u64 a0_1) := (blk_cell BK358.out 1).trans rfl; have hcz17_2 : w16.cell? ⟨gb358, 2, none⟩ = some (.int .i64 a0_2) := (blk_cell BK358.out 2).trans rfl; have hcz17_3 : w16.cell? ⟨gb358, 3, none⟩ = some (.string a0_3) := (blk_cell BK358.out 3).trans rfl; have hcz17_4 : w16.cell? ⟨gb358, 4, none⟩ = some (.string a0_4) := (blk_cell BK358.out 4).trans rfl; have hfz17_0 := blk_frozen BK358.out 0; have hfz17_1 := blk_frozen BK358.out 1; have hfz17_2 := blk_frozen BK358.out 2; have hfz17_3 := blk_frozen BK358.out 3; have hfz17_4 := blk_frozen BK358.out 4) | ((with_reducible refine gate_callee (f := 29) rfl ?_); refine gL (some 35) Tryz.func29 #[.string a0_0] rfl ?_; (with_reducible refine (letterlockref3_OfText.calls k a0_0 t365 t366 _ A8.out).mono ?_); rintro e w18 ⟨rfl, hb⟩; refine ⟨_, rfl, ?_⟩; have n0_ := Aside0.mk (blk_below (g := gb358) (o := .cells #[.string a0_0, .int .u64 a0_1, .int .i64 a0_2, .string a0_3, .string a0_4] 28 (0, 0)) kl_ hb); have n1_ := Aside0.mk (below_step bl_ hb); clear BK358; clear HB; have BK358 := n0_; have HB := n1_; clear n0_ n1_; (try clear hb)) | ((with_reducible refine gate_callee (f := 66) rfl ?_); refine gL (some 40) Tryz.func66 #[.string t365, .string t363] rfl ?_; (with_reducible refine (letterlockref3_OfPair.calls k t365 t363 t367 t368 _ A9.out).mono ?_); rintro e w19 ⟨rfl, hb⟩; refine ⟨_, rfl, ?_⟩; have n0_ := Aside0.mk (blk_below (g := gb358) (o := .cells #[.string a0_0, .int .u64 a0_1, .int .i64 a0_2, .string a0_3, .string a0_4] 28 (0, 0)) kl_ hb); have n1_ := Aside0.mk (below_step bl_ hb); clear BK358; clear HB; have BK358 := n0_; have HB := n1_; clear n0_ n1_; (try clear hb)))
   go_ret2
   exact ⟨eq_, bl_⟩
  ·rw [if_neg c7] at H
   have c7b0 : (t364 == 0) = false := beq_eq_false_iff_ne.mpr c7
   have c7b1 : (t364 != 0) = true := bne_iff_ne.mpr c7
   simp only [Option.some.injEq, Prod.mk.injEq] at H
   obtain ⟨rfl, rfl⟩ := H
   go_enter Tryz.func31, Tryz.ntmps31
   try go_wp2_with (first | ((with_reducible refine gate_dst (N := 1) rfl ?_); refine box_event ?hg (N := 1) ?hd (cs := #[.string a0_0, .int .u64 a0_1, .int .i64 a0_2, .string a0_3, .string a0_4]) (t := 28) ?hr ?_; (case hd => rfl); (case hg => rfl); (case hr => first | (go_simp; done) | (go_simp; rfl)); intro gb358 hg w20 hbox hb; have n0_ := Aside0.mk (below_step bl_ hb); have n1_ := Aside0.mk (hbox); have n2_ := Aside0.mk ((by rw [hg]; exact (below_size bl_) : w.heap.size ≤ gb358)); have n3_ := Aside0.mk ((by rw [hg]; exact (below_size bl_) : w.heap.size ≤ gb358)); clear HB; have HB := n0_; have BK358 := n1_; have GW358 := n2_; have GE358 := n3_; clear n0_ n1_ n2_ n3_; clear hb hbox hg))
   have n0_ := Aside0.mk (blk_drew BK358.out)
   have n1_ := Aside0.mk (below_drew1 HB.out)
   clear BK358
   clear HB
   have BK358 := n0_
   have HB := n1_
   clear n0_ n1_
   refine start_ (n := 12) (S := fun w' => w'.cell? ⟨gb358, 0, none⟩ = some (.string a0_0) ∧ w'.cell? ⟨gb358, 1, none⟩ = some (.int .u64 a0_1) ∧ w'.cell? ⟨gb358, 2, none⟩ = some (.int .i64 a0_2) ∧ w'.cell? ⟨gb358, 3, none⟩ = some (.string a0_3) ∧ w'.cell? ⟨gb358, 4, none⟩ = some (.string a0_4)) (ds := []) #[false, false, false, false, false, false, false, false, false, false, false, false] (by kernel_rfl) rfl rfl ⟨(blk_cell BK358.out 0).trans rfl, (blk_cell BK358.out 1).trans rfl, (blk_cell BK358.out 2).trans rfl, (blk_cell BK358.out 3).trans rfl, (blk_cell BK358.out 4).trans rfl⟩ (fun hHeld => ?_); refine with_tabW letterlockref11_signed.tab1 letterlockref11_signed.bits1 (fun HT_ HW_ => ?_)
   generalize w20.drew = w21 at BK358 HB hHeld ⊢
   refine pS (i := 0) (N := some 9) (bn 12 1) rfl HT_.out ?_
   refine pS (i := 4) (N := some 13) (bn 12 17) rfl HT_.out ?_
   refine tS (i := 1) (N := some 10) (bn 12 19) rfl HT_.out HW_.out hHeld (fun w' ⟨s0, s1, s2, s3, s4⟩ => by go_simp; with_reducible rfl) ?_
   refine pS (i := 2) (N := some 11) (bn 12 23) rfl HT_.out ?_
   refine tS (i := 5) (N := some 14) (bn 12 55) rfl HT_.out HW_.out hHeld (fun w' ⟨s0, s1, s2, s3, s4⟩ => by go_simp; with_reducible rfl) ?_
   refine oS (i := 3) (N := some 12) (bn 12 63) rfl HT_.out (fun K hK => ?_)
   refine gS Tryz.func67 #[.int .u64 (IntKind.u64.wrap (a0_2))] rfl ?_
   with_reducible refine (letterlockref3_OfAtom.calls k (IntKind.u64.wrap (a0_2)) t359 _ A2.out).mono ?_
   rintro e w22 ⟨rfl, hb⟩
   refine ⟨_, rfl, ?_⟩
   have n0_ := Aside0.mk (blk_below (g := gb358) (o := .cells #[.string a0_0, .int .u64 a0_1, .int .i64 a0_2, .string a0_3, .string a0_4] 28 (0, 0)) kl_ hb)
   have n1_ := Aside0.mk (below_step bl_ hb)
   clear BK358
   clear HB
   have BK358 := n0_
   have HB := n1_
   clear n0_ n1_
   (try clear hb)
   (try clear hb2)
   (try clear hk)
   (try clear hi)
   refine hK.out _ _ ⟨(blk_cell BK358.out 0).trans rfl, (blk_cell BK358.out 1).trans rfl, (blk_cell BK358.out 2).trans rfl, (blk_cell BK358.out 3).trans rfl, (blk_cell BK358.out 4).trans rfl⟩ (fun hHeld => ?_)
   clear hK K
   refine nS (some 12) ?_
   refine oS (i := 6) (N := some 15) (bn 12 127) rfl HT_.out (fun K hK => ?_)
   refine gS Tryz.func66 #[.string t359, .string a0_3] rfl ?_
   with_reducible refine (letterlockref3_OfPair.calls k t359 a0_3 t360 t361 _ A3.out).mono ?_
   rintro e w23 ⟨rfl, hb⟩
   refine ⟨_, rfl, ?_⟩
   have n0_ := Aside0.mk (blk_below (g := gb358) (o := .cells #[.string a0_0, .int .u64 a0_1, .int .i64 a0_2, .string a0_3, .string a0_4] 28 (0, 0)) kl_ hb)
   have n1_ := Aside0.mk (below_step bl_ hb)
   clear BK358
   clear HB
   have BK358 := n0_
   have HB := n1_
   clear n0_ n1_
   (try clear hb)
   (try clear hb2)
   (try clear hk)
   (try clear hi)
   refine hK.out _ _ ⟨(blk_cell BK358.out 0).trans rfl, (blk_cell BK358.out 1).trans rfl, (blk_cell BK358.out 2).trans rfl, (blk_cell BK358.out 3).trans rfl, (blk_cell BK358.out 4).trans rfl⟩ (fun hHeld => ?_)
   clear hK K
   refine nS (some 15) ?_
   refine pS (i := 7) (N := some 8) (bn 12 255) rfl HT_.out ?_
   refine pS (i := 8) (N := some 16) (bn 12 511) rfl HT_.out ?_
   refine pS (i := 9) (N := some 17) (bn 12 1023) rfl HT_.out ?_
   refine pS (i := 10) (N := some 4) (bn 12 2047) rfl HT_.out ?_
   refine pS (i := 11) (N := some 5) (bn 12 4095) rfl HT_.out ?_
   refine done_ (done_of HT_.out (by kernel_rfl)) ?_
   have hcz24_0 : w23.cell? ⟨gb358, 0, none⟩ = some (.string a0_0) := (blk_cell BK358.out 0).trans rfl
   have hcz24_1 : w23.cell? ⟨gb358, 1, none⟩ = some (.int .u64 a0_1) := (blk_cell BK358.out 1).trans rfl
   have hcz24_2 : w23.cell? ⟨gb358, 2, none⟩ = some (.int .i64 a0_2) := (blk_cell BK358.out 2).trans rfl
   have hcz24_3 : w23.cell? ⟨gb358, 3, none⟩ = some (.string a0_3) := (blk_cell BK358.out 3).trans rfl
   have hcz24_4 : w23.cell? ⟨gb358, 4, none⟩ = some (.string a0_4) := (blk_cell BK358.out 4).trans rfl
   have hfz24_0 := blk_frozen BK358.out 0
   have hfz24_1 := blk_frozen BK358.out 1
   have hfz24_2 := blk_frozen BK358.out 2
   have hfz24_3 := blk_frozen BK358.out 3
   have hfz24_4 := blk_frozen BK358.out 4
   try go_wp2_with (first | ((with_reducible refine gate_callee (f := 67) rfl ?_); refine gL (some 24) Tryz.func67 #[.int .u64 a0_1] rfl ?_; (with_reducible refine (letterlockref3_OfAtom.calls k a0_1 t362 _ A5.out).mono ?_); rintro e w25 ⟨rfl, hb⟩; refine ⟨_, rfl, ?_⟩; have n0_ := Aside0.mk (blk_below (g := gb358) (o := .cells #[.string a0_0, .int .u64 a0_1, .int .i64 a0_2, .string a0_3, .string a0_4] 28 (0, 0)) kl_ hb); have n1_ := Aside0.mk (below_step bl_ hb); clear BK358; clear HB; have BK358 := n0_; have HB := n1_; clear n0_ n1_; (try clear hb)) | ((with_reducible refine gate_callee (f := 66) rfl ?_); refine gL (some 26) Tryz.func66 #[.string t362, .string t360] rfl ?_; (with_reducible refine (letterlockref3_OfPair.calls k t362 t360 t363 t364 _ A6.out).mono ?_); rintro e w26 ⟨rfl, hb⟩; refine ⟨_, rfl, ?_⟩; have n0_ := Aside0.mk (blk_below (g := gb358) (o := .cells #[.string a0_0, .int .u64 a0_1, .int .i64 a0_2, .string a0_3, .string a0_4] 28 (0, 0)) kl_ hb); have n1_ := Aside0.mk (below_step bl_ hb); clear BK358; clear HB; have BK358 := n0_; have HB := n1_; clear n0_ n1_; (try clear hb)))
   go_ret2
   exact ⟨eq_, bl_⟩
 ·rw [if_neg c4] at H
  have c4b0 : (t361 == 0) = false := beq_eq_false_iff_ne.mpr c4
  have c4b1 : (t361 != 0) = true := bne_iff_ne.mpr c4
  simp only [Option.some.injEq, Prod.mk.injEq] at H
  obtain ⟨rfl, rfl⟩ := H
  go_enter Tryz.func31, Tryz.ntmps31
  try go_wp2_with (first | ((with_reducible refine gate_dst (N := 1) rfl ?_); refine box_event ?hg (N := 1) ?hd (cs := #[.string a0_0, .int .u64 a0_1, .int .i64 a0_2, .string a0_3, .string a0_4]) (t := 28) ?hr ?_; (case hd => rfl); (case hg => rfl); (case hr => first | (go_simp; done) | (go_simp; rfl)); intro gb358 hg w27 hbox hb; have n0_ := Aside0.mk (below_step bl_ hb); have n1_ := Aside0.mk (hbox); have n2_ := Aside0.mk ((by rw [hg]; exact (below_size bl_) : w.heap.size ≤ gb358)); have n3_ := Aside0.mk ((by rw [hg]; exact (below_size bl_) : w.heap.size ≤ gb358)); clear HB; have HB := n0_; have BK358 := n1_; have GW358 := n2_; have GE358 := n3_; clear n0_ n1_ n2_ n3_; clear hb hbox hg))
  have n0_ := Aside0.mk (blk_drew BK358.out)
  have n1_ := Aside0.mk (below_drew1 HB.out)
  clear BK358
  clear HB
  have BK358 := n0_
  have HB := n1_
  clear n0_ n1_
  refine start_ (n := 12) (S := fun w' => w'.cell? ⟨gb358, 0, none⟩ = some (.string a0_0) ∧ w'.cell? ⟨gb358, 1, none⟩ = some (.int .u64 a0_1) ∧ w'.cell? ⟨gb358, 2, none⟩ = some (.int .i64 a0_2) ∧ w'.cell? ⟨gb358, 3, none⟩ = some (.string a0_3) ∧ w'.cell? ⟨gb358, 4, none⟩ = some (.string a0_4)) (ds := []) #[false, false, false, false, false, false, false, false, false, false, false, false] (by kernel_rfl) rfl rfl ⟨(blk_cell BK358.out 0).trans rfl, (blk_cell BK358.out 1).trans rfl, (blk_cell BK358.out 2).trans rfl, (blk_cell BK358.out 3).trans rfl, (blk_cell BK358.out 4).trans rfl⟩ (fun hHeld => ?_); refine with_tabW letterlockref11_signed.tab1 letterlockref11_signed.bits1 (fun HT_ HW_ => ?_)
  generalize w27.drew = w28 at BK358 HB hHeld ⊢
  refine pS (i := 0) (N := some 9) (bn 12 1) rfl HT_.out ?_
  refine pS (i := 4) (N := some 13) (bn 12 17) rfl HT_.out ?_
  refine tS (i := 1) (N := some 10) (bn 12 19) rfl HT_.out HW_.out hHeld (fun w' ⟨s0, s1, s2, s3, s4⟩ => by go_simp; with_reducible rfl) ?_
  refine pS (i := 2) (N := some 11) (bn 12 23) rfl HT_.out ?_
  refine tS (i := 5) (N := some 14) (bn 12 55) rfl HT_.out HW_.out hHeld (fun w' ⟨s0, s1, s2, s3, s4⟩ => by go_simp; with_reducible rfl) ?_
  refine oS (i := 3) (N := some 12) (bn 12 63) rfl HT_.out (fun K hK => ?_)
  refine gS Tryz.func67 #[.int .u64 (IntKind.u64.wrap (a0_2))] rfl ?_
  with_reducible refine (letterlockref3_OfAtom.calls k (IntKind.u64.wrap (a0_2)) t359 _ A2.out).mono ?_
  rintro e w29 ⟨rfl, hb⟩
  refine ⟨_, rfl, ?_⟩
  have n0_ := Aside0.mk (blk_below (g := gb358) (o := .cells #[.string a0_0, .int .u64 a0_1, .int .i64 a0_2, .string a0_3, .string a0_4] 28 (0, 0)) kl_ hb)
  have n1_ := Aside0.mk (below_step bl_ hb)
  clear BK358
  clear HB
  have BK358 := n0_
  have HB := n1_
  clear n0_ n1_
  (try clear hb)
  (try clear hb2)
  (try clear hk)
  (try clear hi)
  refine hK.out _ _ ⟨(blk_cell BK358.out 0).trans rfl, (blk_cell BK358.out 1).trans rfl, (blk_cell BK358.out 2).trans rfl, (blk_cell BK358.out 3).trans rfl, (blk_cell BK358.out 4).trans rfl⟩ (fun hHeld => ?_)
  clear hK K
  refine nS (some 12) ?_
  refine oS (i := 6) (N := some 15) (bn 12 127) rfl HT_.out (fun K hK => ?_)
  refine gS Tryz.func66 #[.string t359, .string a0_3] rfl ?_
  with_reducible refine (letterlockref3_OfPair.calls k t359 a0_3 t360 t361 _ A3.out).mono ?_
  rintro e w30 ⟨rfl, hb⟩
  refine ⟨_, rfl, ?_⟩
  have n0_ := Aside0.mk (blk_below (g := gb358) (o := .cells #[.string a0_0, .int .u64 a0_1, .int .i64 a0_2, .string a0_3, .string a0_4] 28 (0, 0)) kl_ hb)
  have n1_ := Aside0.mk (below_step bl_ hb)
  clear BK358
  clear HB
  have BK358 := n0_
  have HB := n1_
  clear n0_ n1_
  (try clear hb)
  (try clear hb2)
  (try clear hk)
  (try clear hi)
  refine hK.out _ _ ⟨(blk_cell BK358.out 0).trans rfl, (blk_cell BK358.out 1).trans rfl, (blk_cell BK358.out 2).trans rfl, (blk_cell BK358.out 3).trans rfl, (blk_cell BK358.out 4).trans rfl⟩ (fun hHeld => ?_)
  clear hK K
  refine nS (some 15) ?_
  refine pS (i := 7) (N := some 8) (bn 12 255) rfl HT_.out ?_
  refine pS (i := 8) (N := some 16) (bn 12 511) rfl HT_.out ?_
  refine pS (i := 9) (N := some 17) (bn 12 1023) rfl HT_.out ?_
  refine pS (i := 10) (N := some 4) (bn 12 2047) rfl HT_.out ?_
  refine pS (i := 11) (N := some 5) (bn 12 4095) rfl HT_.out ?_
  refine done_ (done_of HT_.out (by kernel_rfl)) ?_
  try go_wp2
  go_ret2
  exact ⟨eq_, bl_⟩
mutual
def letterlockref11_Build.j0 : Nat → ByteArray → ByteArray → Int → List ByteArray → Bool → Option (ByteArray × Int × Int × ByteArray × ByteArray × Int)
 | 0, _, _, _, _, _ => none
 | k + 1, x0, x1, x2, x3, x22 => if x22 = true then (some ((⟨#[]⟩ : ByteArray), 0, 0, (⟨#[]⟩ : ByteArray), (⟨#[]⟩ : ByteArray), 1)) else ((letterlockref3_OfText.f k (⟨#[]⟩ : ByteArray)).bind fun bt374 => (if (x3.length : Int) > 0 then ((letterlockref10_Root.f k x3).bind fun bt376 => (letterlockref11_Build.j1 k x0 x1 x2 x3 bt376.1 bt376.2)) else (letterlockref11_Build.j1 k x0 x1 x2 x3 bt374.1 bt374.2)))
def letterlockref11_Build.j1 : Nat → ByteArray → ByteArray → Int → List ByteArray → ByteArray → Int → Option (ByteArray × Int × Int × ByteArray × ByteArray × Int)
 | 0, _, _, _, _, _, _ => none
 | k + 1, x0, x1, x2, x3, x10, x11 => if x11 = 0 then ((letterlockref11_signed.f k x1 x2 (x3.length : Int) x10 (⟨#[]⟩ : ByteArray)).bind fun bt379 => (if bt379.2 = 0 then ((letterlockref3_Sign.f k x0 bt379.1).bind fun bt381 => (if bt381.2 = 0 then (some (x1, x2, (x3.length : Int), x10, bt381.1, 0)) else (some ((⟨#[]⟩ : ByteArray), 0, 0, (⟨#[]⟩ : ByteArray), (⟨#[]⟩ : ByteArray), bt381.2)))) else (some ((⟨#[]⟩ : ByteArray), 0, 0, (⟨#[]⟩ : ByteArray), (⟨#[]⟩ : ByteArray), bt379.2)))) else (some ((⟨#[]⟩ : ByteArray), 0, 0, (⟨#[]⟩ : ByteArray), (⟨#[]⟩ : ByteArray), x11))
end
def letterlockref11_Build.f (k : Nat) (a0 : ByteArray) (a1 : ByteArray) (a2 : Int) (l3 : List ByteArray) : Option (ByteArray × Int × Int × ByteArray × ByteArray × Int) := (letterlockref3_Right.f k a0).bind fun t372 => (if t372 = true then ((letterlockref1_Right.f k a1).bind fun t373 => (letterlockref11_Build.j0 k a0 a1 a2 l3 (!t373))) else (letterlockref11_Build.j0 k a0 a1 a2 l3 true))
set_option maxHeartbeats 8000000 in
set_option maxRecDepth 100000 in
theorem letterlockref11_Build.calls (k : Nat) (a0 : ByteArray) (a1 : ByteArray) (a2 : Int) (A3 : Option Addr) (c3 : Nat) (l3 : List ByteArray) (r1 : ByteArray) (r2 : Int) (r3 : Int) (r4 : ByteArray) (r5 : ByteArray) (r6 : Int) (w : World) (hr3 : Kd.C Kd.string w A3 l3.length l3) (hc3 : l3.length ≤ c3) (h : letterlockref11_Build.f k a0 a1 a2 l3 = some (r1, r2, r3, r4, r5, r6)) :
  Calls Tryz.prog 8 #[.string a0, .string a1, .int .u64 a2, .slice A3 l3.length c3] w fun e w' => e = .returned (.tuple #[.agg #[.string r1, .int .u64 r2, .int .i64 r3, .string r4, .string r5], .int .i64 r6]) ∧ Below w.heap.size w w' := by
 have hu28 := Tryz.underlying28
 have HR3 := Aside0.mk hr3
 have HC3 := Aside0.mk hc3
 clear hr3 hc3
 have HB := Aside0.mk (Below.refl w.heap.size w)
 unfold letterlockref11_Build.f at h
 have H := h
 clear h
 have HC5 := Aside0.mk H
 clear H
 go_enter Tryz.func8, Tryz.ntmps8
 go_upto_region 1 with (first | ((with_reducible refine gate_dst (N := 8) rfl ?_); refine box_event ?hg (N := 8) ?hd (cs := #[.string (⟨#[]⟩ : ByteArray), .int .u64 0, .int .i64 0, .string (⟨#[]⟩ : ByteArray), .string (⟨#[]⟩ : ByteArray)]) (t := 28) ?hr ?_; (case hd => rfl); (case hg => rfl); (case hr => first | (go_simp; done) | (go_simp; rfl)); intro gb371 hg w6 hbox hb; have n0_ := Aside0.mk (below_step bl_ hb); have n1_ := Aside0.mk (hbox); have n2_ := Aside0.mk ((by rw [hg]; exact (below_size bl_) : w.heap.size ≤ gb371)); have n3_ := Aside0.mk ((by rw [hg]; exact (below_size bl_) : w.heap.size ≤ gb371)); clear HB; have HB := n0_; have BK371 := n1_; have GW371 := n2_; have GE371 := n3_; clear n0_ n1_ n2_ n3_; clear hb hbox hg))
 (try simp only [Act.put, List.setIfInBounds_toArray, List.set_cons_zero, List.set_cons_succ])
 go_cut [22] (fun v22 wc => ∃ (kq : Nat) (x22_4 : Bool), v22 = .bool x22_4 ∧ Aside0 (letterlockref11_Build.j0 kq a0 a1 a2 l3 x22_4 = some (r1, r2, r3, r4, r5, r6)) ∧ Aside0 (kq ≤ k) ∧ Aside0 (wc.heap[gb371]? = some (.cells #[.string (⟨#[]⟩ : ByteArray), .int .u64 0, .int .i64 0, .string (⟨#[]⟩ : ByteArray), .string (⟨#[]⟩ : ByteArray)] 28 (0, 0))) ∧ Aside0 (Below w.heap.size w wc))
 case first =>
  have H := HC5.out
  clear HC5
  replace H := Option.bind_eq_some_iff.mp H
  obtain ⟨t372, A70, H⟩ := H
  try dsimp only at H
  have A7 := Aside0.mk A70
  clear A70
  by_cases c8 : t372 = true
  ·subst c8
   rw [if_pos rfl] at H
   replace H := Option.bind_eq_some_iff.mp H
   obtain ⟨t373, A90, H⟩ := H
   try dsimp only at H
   have A9 := Aside0.mk A90
   clear A90
   have H' := Aside0.mk H
   clear H
   go_wp2_with (first | ((with_reducible refine gate_callee (f := 27) rfl ?_); refine gL (some 16) Tryz.func27 #[.string a0] rfl ?_; (with_reducible refine (letterlockref3_Right.calls k a0 true _ A7.out).mono ?_); rintro e w10 ⟨rfl, hb⟩; refine ⟨_, rfl, ?_⟩; have n0_ := Aside0.mk (blk_below (g := gb371) (o := .cells #[.string (⟨#[]⟩ : ByteArray), .int .u64 0, .int .i64 0, .string (⟨#[]⟩ : ByteArray), .string (⟨#[]⟩ : ByteArray)] 28 (0, 0)) kl_ hb); have n1_ := Aside0.mk (below_step bl_ hb); clear BK371; clear HB; have BK371 := n0_; have HB := n1_; clear n0_ n1_; (try clear hb)) | (go_at_call 28; (with_reducible refine (letterlockref1_Right.calls k a1 t373 _ A9.out).mono ?_); rintro e w11 ⟨rfl, hb⟩; have n0_ := Aside0.mk (blk_below (g := gb371) (o := .cells #[.string (⟨#[]⟩ : ByteArray), .int .u64 0, .int .i64 0, .string (⟨#[]⟩ : ByteArray), .string (⟨#[]⟩ : ByteArray)] 28 (0, 0)) kl_ hb); have n1_ := Aside0.mk (below_step bl_ hb); clear BK371; clear HB; have BK371 := n0_; have HB := n1_; clear n0_ n1_; (try clear hb)))
   go_meet
   case rel => exact ⟨_, (!t373), es_, H', ⟨by first | omega | exact Nat.le_refl _⟩, ⟨kl_⟩, ⟨bl_⟩⟩
  ·replace c8 := Bool.eq_false_iff.mpr c8
   subst c8
   rw [if_neg (show ¬ (false = true) by decide)] at H
   have H' := Aside0.mk H
   clear H
   go_wp2_with (first | ((with_reducible refine gate_callee (f := 27) rfl ?_); refine gL (some 16) Tryz.func27 #[.string a0] rfl ?_; (with_reducible refine (letterlockref3_Right.calls k a0 false _ A7.out).mono ?_); rintro e w12 ⟨rfl, hb⟩; refine ⟨_, rfl, ?_⟩; have n0_ := Aside0.mk (blk_below (g := gb371) (o := .cells #[.string (⟨#[]⟩ : ByteArray), .int .u64 0, .int .i64 0, .string (⟨#[]⟩ : ByteArray), .string (⟨#[]⟩ : ByteArray)] 28 (0, 0)) kl_ hb); have n1_ := Aside0.mk (below_step bl_ hb); clear BK371; clear HB; have BK371 := n0_; have HB := n1_; clear n0_ n1_; (try clear hb)))
   go_meet
   case rel => exact ⟨_, (true), es_, H', ⟨by first | omega | exact Nat.le_refl _⟩, ⟨kl_⟩, ⟨bl_⟩⟩
 case rest =>
  clear HC5
  try clear c2
  try clear p2
  try clear c3
  try clear c8
  obtain ⟨kq, x22_4, rfl, HA, HJ4, BK371, HB⟩ := hcut
  cases kq with
  | zero => exact absurd HA.out (by simp [letterlockref11_Build.j0])
  | succ kj4 =>
   have H := HA.out
   clear HA
   simp only [letterlockref11_Build.j0] at H
   by_cases c13 : x22_4 = true
   ·subst c13
    rw [if_pos rfl] at H
    simp only [Option.some.injEq, Prod.mk.injEq] at H
    obtain ⟨rfl, rfl, rfl, rfl, rfl, rfl⟩ := H
    have hcz14_0 : wc.cell? ⟨gb371, 0, none⟩ = some (.string (⟨#[]⟩ : ByteArray)) := (blk_cell BK371.out 0).trans rfl
    have hcz14_1 : wc.cell? ⟨gb371, 1, none⟩ = some (.int .u64 0) := (blk_cell BK371.out 1).trans rfl
    have hcz14_2 : wc.cell? ⟨gb371, 2, none⟩ = some (.int .i64 0) := (blk_cell BK371.out 2).trans rfl
    have hcz14_3 : wc.cell? ⟨gb371, 3, none⟩ = some (.string (⟨#[]⟩ : ByteArray)) := (blk_cell BK371.out 3).trans rfl
    have hcz14_4 : wc.cell? ⟨gb371, 4, none⟩ = some (.string (⟨#[]⟩ : ByteArray)) := (blk_cell BK371.out 4).trans rfl
    have hfz14_0 := blk_frozen BK371.out 0
    have hfz14_1 := blk_frozen BK371.out 1
    have hfz14_2 := blk_frozen BK371.out 2
    have hfz14_3 := blk_frozen BK371.out 3
    have hfz14_4 := blk_frozen BK371.out 4
    go_wp2
    refine bodyPost_ret (results_ct rfl _ _ gb371 28 #[.string (⟨#[]⟩ : ByteArray), .int .u64 0, .int .i64 0, .string (⟨#[]⟩ : ByteArray), .string (⟨#[]⟩ : ByteArray)] (0, 0) _ rfl (by (with_reducible repeat (first | refine blk_drewN ?_ _ | refine blk_drew ?_ | refine blk_alloc ?_ _)); refine blk_put (cs := #[.string (⟨#[]⟩ : ByteArray), .int .u64 0, .int .i64 0, .string (⟨#[]⟩ : ByteArray), .string (⟨#[]⟩ : ByteArray)]) ?_ 4 _ rfl; (with_reducible repeat (first | refine blk_drewN ?_ _ | refine blk_drew ?_ | refine blk_alloc ?_ _)); refine blk_put (cs := #[.string (⟨#[]⟩ : ByteArray), .int .u64 0, .int .i64 0, .string (⟨#[]⟩ : ByteArray), .string (⟨#[]⟩ : ByteArray)]) ?_ 3 _ rfl; (with_reducible repeat (first | refine blk_drewN ?_ _ | refine blk_drew ?_ | refine blk_alloc ?_ _)); refine blk_put (cs := #[.string (⟨#[]⟩ : ByteArray), .int .u64 0, .int .i64 0, .string (⟨#[]⟩ : ByteArray), .string (⟨#[]⟩ : ByteArray)]) ?_ 2 _ rfl; (with_reducible repeat (first | refine blk_drewN ?_ _ | refine blk_drew ?_ | refine blk_alloc ?_ _)); refine blk_put (cs := #[.string (⟨#[]⟩ : ByteArray), .int .u64 0, .int .i64 0, .string (⟨#[]⟩ : ByteArray), .string (⟨#[]⟩ : ByteArray)]) ?_ 1 _ rfl; (with_reducible repeat (first | refine blk_drewN ?_ _ | refine blk_drew ?_ | refine blk_alloc ?_ _)); refine blk_put (cs := #[.string (⟨#[]⟩ : ByteArray), .int .u64 0, .int .i64 0, .string (⟨#[]⟩ : ByteArray), .string (⟨#[]⟩ : ByteArray)]) ?_ 0 _ rfl; (with_reducible repeat (first | refine blk_drewN ?_ _ | refine blk_drew ?_ | refine blk_alloc ?_ _)); exact BK371.out) Tryz.underlying28 rfl (by kernel_rfl)) rfl ?_
    exact ⟨eq_, bl_⟩
   ·replace c13 := Bool.eq_false_iff.mpr c13
    subst c13
    rw [if_neg (show ¬ (false = true) by decide)] at H
    replace H := Option.bind_eq_some_iff.mp H
    obtain ⟨⟨t374, t375⟩, A150, H⟩ := H
    try dsimp only at H
    have A15 := Aside0.mk A150
    clear A150
    have HC16 := Aside0.mk H
    clear H
    go_upto_if 30 with (first | ((with_reducible refine gate_callee (f := 29) rfl ?_); refine gL (some 25) Tryz.func29 #[.string (⟨#[]⟩ : ByteArray)] rfl ?_; (with_reducible refine (letterlockref3_OfText.calls kj4 (⟨#[]⟩ : ByteArray) t374 t375 _ A15.out).mono ?_); rintro e w17 ⟨rfl, hb⟩; refine ⟨_, rfl, ?_⟩; have n0_ := Aside0.mk (blk_below (g := gb371) (o := .cells #[.string (⟨#[]⟩ : ByteArray), .int .u64 0, .int .i64 0, .string (⟨#[]⟩ : ByteArray), .string (⟨#[]⟩ : ByteArray)] 28 (0, 0)) kl_ hb); have n1_ := Aside0.mk (below_step bl_ hb); clear BK371; clear HB; have BK371 := n0_; have HB := n1_; clear n0_ n1_; (try clear hb)))
    (try simp only [Act.put, List.setIfInBounds_toArray, List.set_cons_zero, List.set_cons_succ])
    go_cut [10, 11] (fun v10 v11 wc => ∃ (kq : Nat) (x10_15 : ByteArray) (x11_15 : Int), v10 = .string x10_15 ∧ v11 = .int .i64 x11_15 ∧ Aside0 (letterlockref11_Build.j1 kq a0 a1 a2 l3 x10_15 x11_15 = some (r1, r2, r3, r4, r5, r6)) ∧ Aside0 (kq ≤ kj4) ∧ Aside0 (wc.heap[gb371]? = some (.cells #[.string (⟨#[]⟩ : ByteArray), .int .u64 0, .int .i64 0, .string (⟨#[]⟩ : ByteArray), .string (⟨#[]⟩ : ByteArray)] 28 (0, 0))) ∧ Aside0 (Below w.heap.size w wc))
    case first =>
     have H := HC16.out
     clear HC16
     by_cases c18 : (l3.length : Int) > 0
     ·rw [if_pos c18] at H
      have c18b0 : decide (0 < (l3.length : Int)) = true := decide_eq_true c18
      have c18b1 : decide (0 < l3.length) = true := decide_eq_true (by omega)
      clear c18
      (first | rw [c18b0] | (simp only [i64_w, i32_w]; rw [c18b0]) | rw [c18b1] | skip)
      replace H := Option.bind_eq_some_iff.mp H
      obtain ⟨⟨t376, t377⟩, A190, H⟩ := H
      try dsimp only at H
      have A19 := Aside0.mk A190
      clear A190
      have H' := Aside0.mk H
      clear H
      go_wp2_with (first | ((with_reducible refine gate_callee (f := 30) rfl ?_); refine gL (some 33) Tryz.func30 #[.slice A3 l3.length c3] rfl ?_; (with_reducible refine (letterlockref10_Root.calls kj4 _ _ l3 t376 t377 _ ?side1 ?side2 A19.out).mono ?_); (case side1 => repeat (first | exact (Kd.C_below HR3.out HB.out) | (with_reducible refine Kd.C_alloc ?_ _) | (with_reducible refine Kd.C_drewN ?_ _) | (with_reducible refine Kd.C_drew ?_))); (case side2 => exact HC3.out); rintro e w20 ⟨rfl, hb⟩; refine ⟨_, rfl, ?_⟩; have n0_ := Aside0.mk (blk_below (g := gb371) (o := .cells #[.string (⟨#[]⟩ : ByteArray), .int .u64 0, .int .i64 0, .string (⟨#[]⟩ : ByteArray), .string (⟨#[]⟩ : ByteArray)] 28 (0, 0)) kl_ hb); have n1_ := Aside0.mk (below_step bl_ hb); clear BK371; clear HB; have BK371 := n0_; have HB := n1_; clear n0_ n1_; (try clear hb)))
      go_meet
      case rel => exact ⟨_, (t376), (t377), es_, es_, H', ⟨by have := HJ4.out; first | omega | exact Nat.le_refl _⟩, ⟨kl_⟩, ⟨bl_⟩⟩
     ·rw [if_neg c18] at H
      have c18b0 : decide (0 < (l3.length : Int)) = false := decide_eq_false c18
      have c18b1 : decide (0 < l3.length) = false := decide_eq_false (by omega)
      clear c18
      (first | rw [c18b0] | (simp only [i64_w, i32_w]; rw [c18b0]) | rw [c18b1] | skip)
      have H' := Aside0.mk H
      clear H
      go_wp2
      go_meet
      case rel => exact ⟨_, (t374), (t375), es_, es_, H', ⟨by have := HJ4.out; first | omega | exact Nat.le_refl _⟩, ⟨kl_⟩, ⟨bl_⟩⟩
    case rest =>
     clear HC16
     try clear c1
     try clear c2
     try clear p2
     try clear c3
     try clear c8
     try clear c13
     try clear c18
     try clear c18b0
     try clear c18b1
     try clear hcz14_0
     try clear hcz14_1
     try clear hcz14_2
     try clear hcz14_3
     try clear hcz14_4
     try clear hfz14_0
     try clear hfz14_1
     try clear hfz14_2
     try clear hfz14_3
     try clear hfz14_4
     try clear p2
     obtain ⟨kq, x10_15, x11_15, rfl, rfl, HA, HJ15, BK371, HB⟩ := hcut
     cases kq with
     | zero => exact absurd HA.out (by simp [letterlockref11_Build.j1])
     | succ kj15 =>
      have H := HA.out
      clear HA
      simp only [letterlockref11_Build.j1] at H
      by_cases c21 : x11_15 = 0
      ·rw [if_pos c21] at H
       have c21b0 : (x11_15 == 0) = true := beq_iff_eq.mpr c21
       have c21b1 : (x11_15 != 0) = false := bne_eq_false_iff_eq.mpr c21
       clear c21
       replace H := Option.bind_eq_some_iff.mp H
       obtain ⟨⟨t379, t380⟩, A220, H⟩ := H
       try dsimp only at H
       have A22 := Aside0.mk A220
       clear A220
       by_cases c23 : t380 = 0
       ·rw [if_pos c23] at H
        have c23b0 : (t380 == 0) = true := beq_iff_eq.mpr c23
        have c23b1 : (t380 != 0) = false := bne_eq_false_iff_eq.mpr c23
        clear c23
        replace H := Option.bind_eq_some_iff.mp H
        obtain ⟨⟨t381, t382⟩, A240, H⟩ := H
        try dsimp only at H
        have A24 := Aside0.mk A240
        clear A240
        by_cases c25 : t382 = 0
        ·rw [if_pos c25] at H
         have c25b0 : (t382 == 0) = true := beq_iff_eq.mpr c25
         have c25b1 : (t382 != 0) = false := bne_eq_false_iff_eq.mpr c25
         clear c25
         simp only [Option.some.injEq, Prod.mk.injEq] at H
         obtain ⟨rfl, rfl, rfl, rfl, rfl, rfl⟩ := H
         go_wp2_with (first | ((with_reducible refine gate_dst (N := 12) rfl ?_); refine box_event ?hg (N := 12) ?hd (cs := #[.string (⟨#[]⟩ : ByteArray), .int .u64 0, .int .i64 0, .string (⟨#[]⟩ : ByteArray), .string (⟨#[]⟩ : ByteArray)]) (t := 28) ?hr ?_; (case hd => rfl); (case hg => rfl); (case hr => first | (go_simp; done) | (go_simp; rfl)); intro gb378 hg w26 hbox hb; have n0_ := Aside0.mk (blk_below (g := gb371) (o := .cells #[.string (⟨#[]⟩ : ByteArray), .int .u64 0, .int .i64 0, .string (⟨#[]⟩ : ByteArray), .string (⟨#[]⟩ : ByteArray)] 28 (0, 0)) kl_ hb); have n1_ := Aside0.mk (below_step bl_ hb); have n2_ := Aside0.mk (hbox); have n3_ := Aside0.mk ((by rw [hg]; exact (below_size bl_) : w.heap.size ≤ gb378)); have n4_ := Aside0.mk ((by rw [hg]; exact (below_size bl_) : w.heap.size ≤ gb378)); have n5_ := Aside0.mk ((by rw [hg]; exact Nat.ne_of_lt (blk_lt (g := gb371) (o := .cells #[.string (⟨#[]⟩ : ByteArray), .int .u64 0, .int .i64 0, .string (⟨#[]⟩ : ByteArray), .string (⟨#[]⟩ : ByteArray)] 28 (0, 0)) kl_) : gb371 ≠ gb378)); have n6_ := Aside0.mk ((by rw [hg]; exact Nat.ne_of_gt (blk_lt (g := gb371) (o := .cells #[.string (⟨#[]⟩ : ByteArray), .int .u64 0, .int .i64 0, .string (⟨#[]⟩ : ByteArray), .string (⟨#[]⟩ : ByteArray)] 28 (0, 0)) kl_) : gb378 ≠ gb371)); clear BK371; clear HB; have BK371 := n0_; have HB := n1_; have BK378 := n2_; have GW378 := n3_; have GE378 := n4_; have NB371_378 := n5_; have NB378_371 := n6_; clear n0_ n1_ n2_ n3_ n4_ n5_ n6_; clear hb hbox hg; have hnb27 := NB378_371.out; have hnc27 := NB371_378.out; have hcz28_0 : w26.cell? ⟨gb378, 0, none⟩ = some (.string (⟨#[]⟩ : ByteArray)) := (blk_cell BK378.out 0).trans rfl; have hcz28_1 : w26.cell? ⟨gb378, 1, none⟩ = some (.int .u64 0) := (blk_cell BK378.out 1).trans rfl; have hcz28_2 : w26.cell? ⟨gb378, 2, none⟩ = some (.int .i64 0) := (blk_cell BK378.out 2).trans rfl; have hcz28_3 : w26.cell? ⟨gb378, 3, none⟩ = some (.string (⟨#[]⟩ : ByteArray)) := (blk_cell BK378.out 3).trans rfl; have hcz28_4 : w26.cell? ⟨gb378, 4, none⟩ = some (.string (⟨#[]⟩ : ByteArray)) := (blk_cell BK378.out 4).trans rfl; have hfz28_0 := blk_frozen BK378.out 0; have hfz28_1 := blk_frozen BK378.out 1; have hfz28_2 := blk_frozen BK378.out 2; have hfz28_3 := blk_frozen BK378.out 3; have hfz28_4 := blk_frozen BK378.out 4) | ((with_reducible refine gate_callee (f := 31) rfl ?_); refine gL (some 48) Tryz.func31 #[.agg #[.string a1, .int .u64 a2, .int .i64 (l3.length : Int), .string x10_15, .string (⟨#[]⟩ : ByteArray)]] rfl ?_; (with_reducible refine (letterlockref11_signed.calls kj15 a1 a2 (l3.length : Int) x10_15 (⟨#[]⟩ : ByteArray) t379 t380 _ A22.out).mono ?_); rintro e w29 ⟨rfl, hb⟩; refine ⟨_, rfl, ?_⟩; have n0_ := Aside0.mk (blk_below (g := gb371) (o := .cells #[.string (⟨#[]⟩ : ByteArray), .int .u64 0, .int .i64 0, .string (⟨#[]⟩ : ByteArray), .string (⟨#[]⟩ : ByteArray)] 28 (0, 0)) (by (with_reducible repeat (first | refine blk_drewN ?_ _ | refine blk_drew ?_ | refine blk_alloc ?_ _)); refine blk_far ?_ NB371_378.out _; (with_reducible repeat (first | refine blk_drewN ?_ _ | refine blk_drew ?_ | refine blk_alloc ?_ _)); refine blk_far ?_ NB371_378.out _; (with_reducible repeat (first | refine blk_drewN ?_ _ | refine blk_drew ?_ | refine blk_alloc ?_ _)); refine blk_far ?_ NB371_378.out _; (with_reducible repeat (first | refine blk_drewN ?_ _ | refine blk_drew ?_ | refine blk_alloc ?_ _)); refine blk_far ?_ NB371_378.out _; (with_reducible repeat (first | refine blk_drewN ?_ _ | refine blk_drew ?_ | refine blk_alloc ?_ _)); refine blk_far ?_ NB371_378.out _; (with_reducible repeat (first | refine blk_drewN ?_ _ | refine blk_drew ?_ | refine blk_alloc ?_ _)); exact BK371.out) hb); have n1_ := Aside0.mk (blk_below (g := gb378) (o := .cells #[.string a1, .int .u64 a2, .int .i64 (l3.length : Int), .string x10_15, .string (⟨#[]⟩ : ByteArray)] 28 (0, 0)) (by (with_reducible repeat (first | refine blk_drewN ?_ _ | refine blk_drew ?_ | refine blk_alloc ?_ _)); refine blk_put (cs := #[.string a1, .int .u64 a2, .int .i64 (l3.length : Int), .string x10_15, .string (⟨#[]⟩ : ByteArray)]) ?_ 4 _ rfl; (with_reducible repeat (first | refine blk_drewN ?_ _ | refine blk_drew ?_ | refine blk_alloc ?_ _)); refine blk_put (cs := #[.string a1, .int .u64 a2, .int .i64 (l3.length : Int), .string (⟨#[]⟩ : ByteArray), .string (⟨#[]⟩ : ByteArray)]) ?_ 3 _ rfl; (with_reducible repeat (first | refine blk_drewN ?_ _ | refine blk_drew ?_ | refine blk_alloc ?_ _)); refine blk_put (cs := #[.string a1, .int .u64 a2, .int .i64 0, .string (⟨#[]⟩ : ByteArray), .string (⟨#[]⟩ : ByteArray)]) ?_ 2 _ rfl; (with_reducible repeat (first | refine blk_drewN ?_ _ | refine blk_drew ?_ | refine blk_alloc ?_ _)); refine blk_put (cs := #[.string a1, .int .u64 0, .int .i64 0, .string (⟨#[]⟩ : ByteArray), .string (⟨#[]⟩ : ByteArray)]) ?_ 1 _ rfl; (with_reducible repeat (first | refine blk_drewN ?_ _ | refine blk_drew ?_ | refine blk_alloc ?_ _)); refine blk_put (cs := #[.string (⟨#[]⟩ : ByteArray), .int .u64 0, .int .i64 0, .string (⟨#[]⟩ : ByteArray), .string (⟨#[]⟩ : ByteArray)]) ?_ 0 _ rfl; (with_reducible repeat (first | refine blk_drewN ?_ _ | refine blk_drew ?_ | refine blk_alloc ?_ _)); exact BK378.out) hb); have n2_ := Aside0.mk (below_step bl_ hb); clear BK371; clear BK378; clear HB; have BK371 := n0_; have BK378 := n1_; have HB := n2_; clear n0_ n1_ n2_; (try clear hb)) | ((with_reducible refine gate_callee (f := 32) rfl ?_); refine gL (some 58) Tryz.func32 #[.string a0, .string t379] rfl ?_; (with_reducible refine (letterlockref3_Sign.calls kj15 a0 t379 t381 t382 _ A24.out).mono ?_); rintro e w30 ⟨rfl, hb⟩; refine ⟨_, rfl, ?_⟩; have n0_ := Aside0.mk (blk_below (g := gb371) (o := .cells #[.string (⟨#[]⟩ : ByteArray), .int .u64 0, .int .i64 0, .string (⟨#[]⟩ : ByteArray), .string (⟨#[]⟩ : ByteArray)] 28 (0, 0)) kl_ hb); have n1_ := Aside0.mk (blk_below (g := gb378) (o := .cells #[.string a1, .int .u64 a2, .int .i64 (l3.length : Int), .string x10_15, .string (⟨#[]⟩ : ByteArray)] 28 (0, 0)) kl_ hb); have n2_ := Aside0.mk (below_step bl_ hb); clear BK371; clear BK378; clear HB; have BK371 := n0_; have BK378 := n1_; have HB := n2_; clear n0_ n1_ n2_; (try clear hb); have hcz31_0 : w30.cell? ⟨gb378, 0, none⟩ = some (.string a1) := (blk_cell BK378.out 0).trans rfl; have hcz31_1 : w30.cell? ⟨gb378, 1, none⟩ = some (.int .u64 a2) := (blk_cell BK378.out 1).trans rfl; have hcz31_2 : w30.cell? ⟨gb378, 2, none⟩ = some (.int .i64 (l3.length : Int)) := (blk_cell BK378.out 2).trans rfl; have hcz31_3 : w30.cell? ⟨gb378, 3, none⟩ = some (.string x10_15) := (blk_cell BK378.out 3).trans rfl; have hcz31_4 : w30.cell? ⟨gb378, 4, none⟩ = some (.string (⟨#[]⟩ : ByteArray)) := (blk_cell BK378.out 4).trans rfl; have hfz31_0 := blk_frozen BK378.out 0; have hfz31_1 := blk_frozen BK378.out 1; have hfz31_2 := blk_frozen BK378.out 2; have hfz31_3 := blk_frozen BK378.out 3; have hfz31_4 := blk_frozen BK378.out 4; have hcz32_0 : w30.cell? ⟨gb371, 0, none⟩ = some (.string (⟨#[]⟩ : ByteArray)) := (blk_cell BK371.out 0).trans rfl; have hcz32_1 : w30.cell? ⟨gb371, 1, none⟩ = some (.int .u64 0) := (blk_cell BK371.out 1).trans rfl; have hcz32_2 : w30.cell? ⟨gb371, 2, none⟩ = some (.int .i64 0) := (blk_cell BK371.out 2).trans rfl; have hcz32_3 : w30.cell? ⟨gb371, 3, none⟩ = some (.string (⟨#[]⟩ : ByteArray)) := (blk_cell BK371.out 3).trans rfl; have hcz32_4 : w30.cell? ⟨gb371, 4, none⟩ = some (.string (⟨#[]⟩ : ByteArray)) := (blk_cell BK371.out 4).trans rfl; have hfz32_0 := blk_frozen BK371.out 0; have hfz32_1 := blk_frozen BK371.out 1; have hfz32_2 := blk_frozen BK371.out 2; have hfz32_3 := blk_frozen BK371.out 3; have hfz32_4 := blk_frozen BK371.out 4))
         refine bodyPost_ret (results_ct rfl _ _ gb371 28 #[.string a1, .int .u64 a2, .int .i64 (l3.length : Int), .string x10_15, .string t381] (0, 0) _ rfl (by (with_reducible repeat (first | refine blk_drewN ?_ _ | refine blk_drew ?_ | refine blk_alloc ?_ _)); refine blk_put (cs := #[.string a1, .int .u64 a2, .int .i64 (l3.length : Int), .string x10_15, .string (⟨#[]⟩ : ByteArray)]) ?_ 4 _ rfl; (with_reducible repeat (first | refine blk_drewN ?_ _ | refine blk_drew ?_ | refine blk_alloc ?_ _)); refine blk_put (cs := #[.string a1, .int .u64 a2, .int .i64 (l3.length : Int), .string (⟨#[]⟩ : ByteArray), .string (⟨#[]⟩ : ByteArray)]) ?_ 3 _ rfl; (with_reducible repeat (first | refine blk_drewN ?_ _ | refine blk_drew ?_ | refine blk_alloc ?_ _)); refine blk_put (cs := #[.string a1, .int .u64 a2, .int .i64 0, .string (⟨#[]⟩ : ByteArray), .string (⟨#[]⟩ : ByteArray)]) ?_ 2 _ rfl; (with_reducible repeat (first | refine blk_drewN ?_ _ | refine blk_drew ?_ | refine blk_alloc ?_ _)); refine blk_put (cs := #[.string a1, .int .u64 0, .int .i64 0, .string (⟨#[]⟩ : ByteArray), .string (⟨#[]⟩ : ByteArray)]) ?_ 1 _ rfl; (with_reducible repeat (first | refine blk_drewN ?_ _ | refine blk_drew ?_ | refine blk_alloc ?_ _)); refine blk_put (cs := #[.string (⟨#[]⟩ : ByteArray), .int .u64 0, .int .i64 0, .string (⟨#[]⟩ : ByteArray), .string (⟨#[]⟩ : ByteArray)]) ?_ 0 _ rfl; (with_reducible repeat (first | refine blk_drewN ?_ _ | refine blk_drew ?_ | refine blk_alloc ?_ _)); refine blk_far ?_ NB371_378.out _; (with_reducible repeat (first | refine blk_drewN ?_ _ | refine blk_drew ?_ | refine blk_alloc ?_ _)); exact BK371.out) Tryz.underlying28 rfl (by kernel_rfl)) rfl ?_
         exact ⟨eq_, bl_⟩
        ·rw [if_neg c25] at H
         have c25b0 : (t382 == 0) = false := beq_eq_false_iff_ne.mpr c25
         have c25b1 : (t382 != 0) = true := bne_iff_ne.mpr c25
         simp only [Option.some.injEq, Prod.mk.injEq] at H
         obtain ⟨rfl, rfl, rfl, rfl, rfl, rfl⟩ := H
         go_wp2_with (first | ((with_reducible refine gate_dst (N := 12) rfl ?_); refine box_event ?hg (N := 12) ?hd (cs := #[.string (⟨#[]⟩ : ByteArray), .int .u64 0, .int .i64 0, .string (⟨#[]⟩ : ByteArray), .string (⟨#[]⟩ : ByteArray)]) (t := 28) ?hr ?_; (case hd => rfl); (case hg => rfl); (case hr => first | (go_simp; done) | (go_simp; rfl)); intro gb378 hg w33 hbox hb; have n0_ := Aside0.mk (blk_below (g := gb371) (o := .cells #[.string (⟨#[]⟩ : ByteArray), .int .u64 0, .int .i64 0, .string (⟨#[]⟩ : ByteArray), .string (⟨#[]⟩ : ByteArray)] 28 (0, 0)) kl_ hb); have n1_ := Aside0.mk (below_step bl_ hb); have n2_ := Aside0.mk (hbox); have n3_ := Aside0.mk ((by rw [hg]; exact (below_size bl_) : w.heap.size ≤ gb378)); have n4_ := Aside0.mk ((by rw [hg]; exact (below_size bl_) : w.heap.size ≤ gb378)); have n5_ := Aside0.mk ((by rw [hg]; exact Nat.ne_of_lt (blk_lt (g := gb371) (o := .cells #[.string (⟨#[]⟩ : ByteArray), .int .u64 0, .int .i64 0, .string (⟨#[]⟩ : ByteArray), .string (⟨#[]⟩ : ByteArray)] 28 (0, 0)) kl_) : gb371 ≠ gb378)); have n6_ := Aside0.mk ((by rw [hg]; exact Nat.ne_of_gt (blk_lt (g := gb371) (o := .cells #[.string (⟨#[]⟩ : ByteArray), .int .u64 0, .int .i64 0, .string (⟨#[]⟩ : ByteArray), .string (⟨#[]⟩ : ByteArray)] 28 (0, 0)) kl_) : gb378 ≠ gb371)); clear BK371; clear HB; have BK371 := n0_; have HB := n1_; have BK378 := n2_; have GW378 := n3_; have GE378 := n4_; have NB371_378 := n5_; have NB378_371 := n6_; clear n0_ n1_ n2_ n3_ n4_ n5_ n6_; clear hb hbox hg; have hnb34 := NB378_371.out; have hnc34 := NB371_378.out; have hcz35_0 : w33.cell? ⟨gb378, 0, none⟩ = some (.string (⟨#[]⟩ : ByteArray)) := (blk_cell BK378.out 0).trans rfl; have hcz35_1 : w33.cell? ⟨gb378, 1, none⟩ = some (.int .u64 0) := (blk_cell BK378.out 1).trans rfl; have hcz35_2 : w33.cell? ⟨gb378, 2, none⟩ = some (.int .i64 0) := (blk_cell BK378.out 2).trans rfl; have hcz35_3 : w33.cell? ⟨gb378, 3, none⟩ = some (.string (⟨#[]⟩ : ByteArray)) := (blk_cell BK378.out 3).trans rfl; have hcz35_4 : w33.cell? ⟨gb378, 4, none⟩ = some (.string (⟨#[]⟩ : ByteArray)) := (blk_cell BK378.out 4).trans rfl; have hfz35_0 := blk_frozen BK378.out 0; have hfz35_1 := blk_frozen BK378.out 1; have hfz35_2 := blk_frozen BK378.out 2; have hfz35_3 := blk_frozen BK378.out 3; have hfz35_4 := blk_frozen BK378.out 4) | ((with_reducible refine gate_callee (f := 31) rfl ?_); refine gL (some 48) Tryz.func31 #[.agg #[.string a1, .int .u64 a2, .int .i64 (l3.length : Int), .string x10_15, .string (⟨#[]⟩ : ByteArray)]] rfl ?_; (with_reducible refine (letterlockref11_signed.calls kj15 a1 a2 (l3.length : Int) x10_15 (⟨#[]⟩ : ByteArray) t379 t380 _ A22.out).mono ?_); rintro e w36 ⟨rfl, hb⟩; refine ⟨_, rfl, ?_⟩; have n0_ := Aside0.mk (blk_below (g := gb371) (o := .cells #[.string (⟨#[]⟩ : ByteArray), .int .u64 0, .int .i64 0, .string (⟨#[]⟩ : ByteArray), .string (⟨#[]⟩ : ByteArray)] 28 (0, 0)) (by (with_reducible repeat (first | refine blk_drewN ?_ _ | refine blk_drew ?_ | refine blk_alloc ?_ _)); refine blk_far ?_ NB371_378.out _; (with_reducible repeat (first | refine blk_drewN ?_ _ | refine blk_drew ?_ | refine blk_alloc ?_ _)); refine blk_far ?_ NB371_378.out _; (with_reducible repeat (first | refine blk_drewN ?_ _ | refine blk_drew ?_ | refine blk_alloc ?_ _)); refine blk_far ?_ NB371_378.out _; (with_reducible repeat (first | refine blk_drewN ?_ _ | refine blk_drew ?_ | refine blk_alloc ?_ _)); refine blk_far ?_ NB371_378.out _; (with_reducible repeat (first | refine blk_drewN ?_ _ | refine blk_drew ?_ | refine blk_alloc ?_ _)); refine blk_far ?_ NB371_378.out _; (with_reducible repeat (first | refine blk_drewN ?_ _ | refine blk_drew ?_ | refine blk_alloc ?_ _)); exact BK371.out) hb); have n1_ := Aside0.mk (blk_below (g := gb378) (o := .cells #[.string a1, .int .u64 a2, .int .i64 (l3.length : Int), .string x10_15, .string (⟨#[]⟩ : ByteArray)] 28 (0, 0)) (by (with_reducible repeat (first | refine blk_drewN ?_ _ | refine blk_drew ?_ | refine blk_alloc ?_ _)); refine blk_put (cs := #[.string a1, .int .u64 a2, .int .i64 (l3.length : Int), .string x10_15, .string (⟨#[]⟩ : ByteArray)]) ?_ 4 _ rfl; (with_reducible repeat (first | refine blk_drewN ?_ _ | refine blk_drew ?_ | refine blk_alloc ?_ _)); refine blk_put (cs := #[.string a1, .int .u64 a2, .int .i64 (l3.length : Int), .string (⟨#[]⟩ : ByteArray), .string (⟨#[]⟩ : ByteArray)]) ?_ 3 _ rfl; (with_reducible repeat (first | refine blk_drewN ?_ _ | refine blk_drew ?_ | refine blk_alloc ?_ _)); refine blk_put (cs := #[.string a1, .int .u64 a2, .int .i64 0, .string (⟨#[]⟩ : ByteArray), .string (⟨#[]⟩ : ByteArray)]) ?_ 2 _ rfl; (with_reducible repeat (first | refine blk_drewN ?_ _ | refine blk_drew ?_ | refine blk_alloc ?_ _)); refine blk_put (cs := #[.string a1, .int .u64 0, .int .i64 0, .string (⟨#[]⟩ : ByteArray), .string (⟨#[]⟩ : ByteArray)]) ?_ 1 _ rfl; (with_reducible repeat (first | refine blk_drewN ?_ _ | refine blk_drew ?_ | refine blk_alloc ?_ _)); refine blk_put (cs := #[.string (⟨#[]⟩ : ByteArray), .int .u64 0, .int .i64 0, .string (⟨#[]⟩ : ByteArray), .string (⟨#[]⟩ : ByteArray)]) ?_ 0 _ rfl; (with_reducible repeat (first | refine blk_drewN ?_ _ | refine blk_drew ?_ | refine blk_alloc ?_ _)); exact BK378.out) hb); have n2_ := Aside0.mk (below_step bl_ hb); clear BK371; clear BK378; clear HB; have BK371 := n0_; have BK378 := n1_; have HB := n2_; clear n0_ n1_ n2_; (try clear hb)) | ((with_reducible refine gate_callee (f := 32) rfl ?_); refine gL (some 58) Tryz.func32 #[.string a0, .string t379] rfl ?_; (with_reducible refine (letterlockref3_Sign.calls kj15 a0 t379 t381 t382 _ A24.out).mono ?_); rintro e w37 ⟨rfl, hb⟩; refine ⟨_, rfl, ?_⟩; have n0_ := Aside0.mk (blk_below (g := gb371) (o := .cells #[.string (⟨#[]⟩ : ByteArray), .int .u64 0, .int .i64 0, .string (⟨#[]⟩ : ByteArray), .string (⟨#[]⟩ : ByteArray)] 28 (0, 0)) kl_ hb); have n1_ := Aside0.mk (blk_below (g := gb378) (o := .cells #[.string a1, .int .u64 a2, .int .i64 (l3.length : Int), .string x10_15, .string (⟨#[]⟩ : ByteArray)] 28 (0, 0)) kl_ hb); have n2_ := Aside0.mk (below_step bl_ hb); clear BK371; clear BK378; clear HB; have BK371 := n0_; have BK378 := n1_; have HB := n2_; clear n0_ n1_ n2_; (try clear hb); have hcz38_0 : w37.cell? ⟨gb378, 0, none⟩ = some (.string a1) := (blk_cell BK378.out 0).trans rfl; have hcz38_1 : w37.cell? ⟨gb378, 1, none⟩ = some (.int .u64 a2) := (blk_cell BK378.out 1).trans rfl; have hcz38_2 : w37.cell? ⟨gb378, 2, none⟩ = some (.int .i64 (l3.length : Int)) := (blk_cell BK378.out 2).trans rfl; have hcz38_3 : w37.cell? ⟨gb378, 3, none⟩ = some (.string x10_15) := (blk_cell BK378.out 3).trans rfl; have hcz38_4 : w37.cell? ⟨gb378, 4, none⟩ = some (.string (⟨#[]⟩ : ByteArray)) := (blk_cell BK378.out 4).trans rfl; have hfz38_0 := blk_frozen BK378.out 0; have hfz38_1 := blk_frozen BK378.out 1; have hfz38_2 := blk_frozen BK378.out 2; have hfz38_3 := blk_frozen BK378.out 3; have hfz38_4 := blk_frozen BK378.out 4; have hcz39_0 : w37.cell? ⟨gb371, 0, none⟩ = some (.string (⟨#[]⟩ : ByteArray)) := (blk_cell BK371.out 0).trans rfl; have hcz39_1 : w37.cell? ⟨gb371, 1, none⟩ = some (.int .u64 0) := (blk_cell BK371.out 1).trans rfl; have hcz39_2 : w37.cell? ⟨gb371, 2, none⟩ = some (.int .i64 0) := (blk_cell BK371.out 2).trans rfl; have hcz39_3 : w37.cell? ⟨gb371, 3, none⟩ = some (.string (⟨#[]⟩ : ByteArray)) := (blk_cell BK371.out 3).trans rfl; have hcz39_4 : w37.cell? ⟨gb371, 4, none⟩ = some (.string (⟨#[]⟩ : ByteArray)) := (blk_cell BK371.out 4).trans rfl; have hfz39_0 := blk_frozen BK371.out 0; have hfz39_1 := blk_frozen BK371.out 1; have hfz39_2 := blk_frozen BK371.out 2; have hfz39_3 := blk_frozen BK371.out 3; have hfz39_4 := blk_frozen BK371.out 4))
         refine bodyPost_ret (results_ct rfl _ _ gb371 28 #[.string (⟨#[]⟩ : ByteArray), .int .u64 0, .int .i64 0, .string (⟨#[]⟩ : ByteArray), .string (⟨#[]⟩ : ByteArray)] (0, 0) _ rfl (by (with_reducible repeat (first | refine blk_drewN ?_ _ | refine blk_drew ?_ | refine blk_alloc ?_ _)); refine blk_put (cs := #[.string (⟨#[]⟩ : ByteArray), .int .u64 0, .int .i64 0, .string (⟨#[]⟩ : ByteArray), .string (⟨#[]⟩ : ByteArray)]) ?_ 4 _ rfl; (with_reducible repeat (first | refine blk_drewN ?_ _ | refine blk_drew ?_ | refine blk_alloc ?_ _)); refine blk_put (cs := #[.string (⟨#[]⟩ : ByteArray), .int .u64 0, .int .i64 0, .string (⟨#[]⟩ : ByteArray), .string (⟨#[]⟩ : ByteArray)]) ?_ 3 _ rfl; (with_reducible repeat (first | refine blk_drewN ?_ _ | refine blk_drew ?_ | refine blk_alloc ?_ _)); refine blk_put (cs := #[.string (⟨#[]⟩ : ByteArray), .int .u64 0, .int .i64 0, .string (⟨#[]⟩ : ByteArray), .string (⟨#[]⟩ : ByteArray)]) ?_ 2 _ rfl; (with_reducible repeat (first | refine blk_drewN ?_ _ | refine blk_drew ?_ | refine blk_alloc ?_ _)); refine blk_put (cs := #[.string (⟨#[]⟩ : ByteArray), .int .u64 0, .int .i64 0, .string (⟨#[]⟩ : ByteArray), .string (⟨#[]⟩ : ByteArray)]) ?_ 1 _ rfl; (with_reducible repeat (first | refine blk_drewN ?_ _ | refine blk_drew ?_ | refine blk_alloc ?_ _)); refine blk_put (cs := #[.string (⟨#[]⟩ : ByteArray), .int .u64 0, .int .i64 0, .string (⟨#[]⟩ : ByteArray), .string (⟨#[]⟩ : ByteArray)]) ?_ 0 _ rfl; (with_reducible repeat (first | refine blk_drewN ?_ _ | refine blk_drew ?_ | refine blk_alloc ?_ _)); refine blk_far ?_ NB371_378.out _; (with_reducible repeat (first | refine blk_drewN ?_ _ | refine blk_drew ?_ | refine blk_alloc ?_ _)); exact BK371.out) Tryz.underlying28 rfl (by kernel_rfl)) rfl ?_
         exact ⟨eq_, bl_⟩
       ·rw [if_neg c23] at H
        have c23b0 : (t380 == 0) = false := beq_eq_false_iff_ne.mpr c23
        have c23b1 : (t380 != 0) = true := bne_iff_ne.mpr c23
        simp only [Option.some.injEq, Prod.mk.injEq] at H
        obtain ⟨rfl, rfl, rfl, rfl, rfl, rfl⟩ := H
        go_wp2_with (first | ((with_reducible refine gate_dst (N := 12) rfl ?_); refine box_event ?hg (N := 12) ?hd (cs := #[.string (⟨#[]⟩ : ByteArray), .int .u64 0, .int .i64 0, .string (⟨#[]⟩ : ByteArray), .string (⟨#[]⟩ : ByteArray)]) (t := 28) ?hr ?_; (case hd => rfl); (case hg => rfl); (case hr => first | (go_simp; done) | (go_simp; rfl)); intro gb378 hg w40 hbox hb; have n0_ := Aside0.mk (blk_below (g := gb371) (o := .cells #[.string (⟨#[]⟩ : ByteArray), .int .u64 0, .int .i64 0, .string (⟨#[]⟩ : ByteArray), .string (⟨#[]⟩ : ByteArray)] 28 (0, 0)) kl_ hb); have n1_ := Aside0.mk (below_step bl_ hb); have n2_ := Aside0.mk (hbox); have n3_ := Aside0.mk ((by rw [hg]; exact (below_size bl_) : w.heap.size ≤ gb378)); have n4_ := Aside0.mk ((by rw [hg]; exact (below_size bl_) : w.heap.size ≤ gb378)); have n5_ := Aside0.mk ((by rw [hg]; exact Nat.ne_of_lt (blk_lt (g := gb371) (o := .cells #[.string (⟨#[]⟩ : ByteArray), .int .u64 0, .int .i64 0, .string (⟨#[]⟩ : ByteArray), .string (⟨#[]⟩ : ByteArray)] 28 (0, 0)) kl_) : gb371 ≠ gb378)); have n6_ := Aside0.mk ((by rw [hg]; exact Nat.ne_of_gt (blk_lt (g := gb371) (o := .cells #[.string (⟨#[]⟩ : ByteArray), .int .u64 0, .int .i64 0, .string (⟨#[]⟩ : ByteArray), .string (⟨#[]⟩ : ByteArray)] 28 (0, 0)) kl_) : gb378 ≠ gb371)); clear BK371; clear HB; have BK371 := n0_; have HB := n1_; have BK378 := n2_; have GW378 := n3_; have GE378 := n4_; have NB371_378 := n5_; have NB378_371 := n6_; clear n0_ n1_ n2_ n3_ n4_ n5_ n6_; clear hb hbox hg; have hnb41 := NB378_371.out; have hnc41 := NB371_378.out; have hcz42_0 : w40.cell? ⟨gb378, 0, none⟩ = some (.string (⟨#[]⟩ : ByteArray)) := (blk_cell BK378.out 0).trans rfl; have hcz42_1 : w40.cell? ⟨gb378, 1, none⟩ = some (.int .u64 0) := (blk_cell BK378.out 1).trans rfl; have hcz42_2 : w40.cell? ⟨gb378, 2, none⟩ = some (.int .i64 0) := (blk_cell BK378.out 2).trans rfl; have hcz42_3 : w40.cell? ⟨gb378, 3, none⟩ = some (.string (⟨#[]⟩ : ByteArray)) := (blk_cell BK378.out 3).trans rfl; have hcz42_4 : w40.cell? ⟨gb378, 4, none⟩ = some (.string (⟨#[]⟩ : ByteArray)) := (blk_cell BK378.out 4).trans rfl; have hfz42_0 := blk_frozen BK378.out 0; have hfz42_1 := blk_frozen BK378.out 1; have hfz42_2 := blk_frozen BK378.out 2; have hfz42_3 := blk_frozen BK378.out 3; have hfz42_4 := blk_frozen BK378.out 4) | ((with_reducible refine gate_callee (f := 31) rfl ?_); refine gL (some 48) Tryz.func31 #[.agg #[.string a1, .int .u64 a2, .int .i64 (l3.length : Int), .string x10_15, .string (⟨#[]⟩ : ByteArray)]] rfl ?_; (with_reducible refine (letterlockref11_signed.calls kj15 a1 a2 (l3.length : Int) x10_15 (⟨#[]⟩ : ByteArray) t379 t380 _ A22.out).mono ?_); rintro e w43 ⟨rfl, hb⟩; refine ⟨_, rfl, ?_⟩; have n0_ := Aside0.mk (blk_below (g := gb371) (o := .cells #[.string (⟨#[]⟩ : ByteArray), .int .u64 0, .int .i64 0, .string (⟨#[]⟩ : ByteArray), .string (⟨#[]⟩ : ByteArray)] 28 (0, 0)) (by (with_reducible repeat (first | refine blk_drewN ?_ _ | refine blk_drew ?_ | refine blk_alloc ?_ _)); refine blk_far ?_ NB371_378.out _; (with_reducible repeat (first | refine blk_drewN ?_ _ | refine blk_drew ?_ | refine blk_alloc ?_ _)); refine blk_far ?_ NB371_378.out _; (with_reducible repeat (first | refine blk_drewN ?_ _ | refine blk_drew ?_ | refine blk_alloc ?_ _)); refine blk_far ?_ NB371_378.out _; (with_reducible repeat (first | refine blk_drewN ?_ _ | refine blk_drew ?_ | refine blk_alloc ?_ _)); refine blk_far ?_ NB371_378.out _; (with_reducible repeat (first | refine blk_drewN ?_ _ | refine blk_drew ?_ | refine blk_alloc ?_ _)); refine blk_far ?_ NB371_378.out _; (with_reducible repeat (first | refine blk_drewN ?_ _ | refine blk_drew ?_ | refine blk_alloc ?_ _)); exact BK371.out) hb); have n1_ := Aside0.mk (blk_below (g := gb378) (o := .cells #[.string a1, .int .u64 a2, .int .i64 (l3.length : Int), .string x10_15, .string (⟨#[]⟩ : ByteArray)] 28 (0, 0)) (by (with_reducible repeat (first | refine blk_drewN ?_ _ | refine blk_drew ?_ | refine blk_alloc ?_ _)); refine blk_put (cs := #[.string a1, .int .u64 a2, .int .i64 (l3.length : Int), .string x10_15, .string (⟨#[]⟩ : ByteArray)]) ?_ 4 _ rfl; (with_reducible repeat (first | refine blk_drewN ?_ _ | refine blk_drew ?_ | refine blk_alloc ?_ _)); refine blk_put (cs := #[.string a1, .int .u64 a2, .int .i64 (l3.length : Int), .string (⟨#[]⟩ : ByteArray), .string (⟨#[]⟩ : ByteArray)]) ?_ 3 _ rfl; (with_reducible repeat (first | refine blk_drewN ?_ _ | refine blk_drew ?_ | refine blk_alloc ?_ _)); refine blk_put (cs := #[.string a1, .int .u64 a2, .int .i64 0, .string (⟨#[]⟩ : ByteArray), .string (⟨#[]⟩ : ByteArray)]) ?_ 2 _ rfl; (with_reducible repeat (first | refine blk_drewN ?_ _ | refine blk_drew ?_ | refine blk_alloc ?_ _)); refine blk_put (cs := #[.string a1, .int .u64 0, .int .i64 0, .string (⟨#[]⟩ : ByteArray), .string (⟨#[]⟩ : ByteArray)]) ?_ 1 _ rfl; (with_reducible repeat (first | refine blk_drewN ?_ _ | refine blk_drew ?_ | refine blk_alloc ?_ _)); refine blk_put (cs := #[.string (⟨#[]⟩ : ByteArray), .int .u64 0, .int .i64 0, .string (⟨#[]⟩ : ByteArray), .string (⟨#[]⟩ : ByteArray)]) ?_ 0 _ rfl; (with_reducible repeat (first | refine blk_drewN ?_ _ | refine blk_drew ?_ | refine blk_alloc ?_ _)); exact BK378.out) hb); have n2_ := Aside0.mk (below_step bl_ hb); clear BK371; clear BK378; clear HB; have BK371 := n0_; have BK378 := n1_; have HB := n2_; clear n0_ n1_ n2_; (try clear hb); have hcz44_0 : w43.cell? ⟨gb371, 0, none⟩ = some (.string (⟨#[]⟩ : ByteArray)) := (blk_cell BK371.out 0).trans rfl; have hcz44_1 : w43.cell? ⟨gb371, 1, none⟩ = some (.int .u64 0) := (blk_cell BK371.out 1).trans rfl; have hcz44_2 : w43.cell? ⟨gb371, 2, none⟩ = some (.int .i64 0) := (blk_cell BK371.out 2).trans rfl; have hcz44_3 : w43.cell? ⟨gb371, 3, none⟩ = some (.string (⟨#[]⟩ : ByteArray)) := (blk_cell BK371.out 3).trans rfl; have hcz44_4 : w43.cell? ⟨gb371, 4, none⟩ = some (.string (⟨#[]⟩ : ByteArray)) := (blk_cell BK371.out 4).trans rfl; have hfz44_0 := blk_frozen BK371.out 0; have hfz44_1 := blk_frozen BK371.out 1; have hfz44_2 := blk_frozen BK371.out 2; have hfz44_3 := blk_frozen BK371.out 3; have hfz44_4 := blk_frozen BK371.out 4))
        refine bodyPost_ret (results_ct rfl _ _ gb371 28 #[.string (⟨#[]⟩ : ByteArray), .int .u64 0, .int .i64 0, .string (⟨#[]⟩ : ByteArray), .string (⟨#[]⟩ : ByteArray)] (0, 0) _ rfl (by (with_reducible repeat (first | refine blk_drewN ?_ _ | refine blk_drew ?_ | refine blk_alloc ?_ _)); refine blk_put (cs := #[.string (⟨#[]⟩ : ByteArray), .int .u64 0, .int .i64 0, .string (⟨#[]⟩ : ByteArray), .string (⟨#[]⟩ : ByteArray)]) ?_ 4 _ rfl; (with_reducible repeat (first | refine blk_drewN ?_ _ | refine blk_drew ?_ | refine blk_alloc ?_ _)); refine blk_put (cs := #[.string (⟨#[]⟩ : ByteArray), .int .u64 0, .int .i64 0, .string (⟨#[]⟩ : ByteArray), .string (⟨#[]⟩ : ByteArray)]) ?_ 3 _ rfl; (with_reducible repeat (first | refine blk_drewN ?_ _ | refine blk_drew ?_ | refine blk_alloc ?_ _)); refine blk_put (cs := #[.string (⟨#[]⟩ : ByteArray), .int .u64 0, .int .i64 0, .string (⟨#[]⟩ : ByteArray), .string (⟨#[]⟩ : ByteArray)]) ?_ 2 _ rfl; (with_reducible repeat (first | refine blk_drewN ?_ _ | refine blk_drew ?_ | refine blk_alloc ?_ _)); refine blk_put (cs := #[.string (⟨#[]⟩ : ByteArray), .int .u64 0, .int .i64 0, .string (⟨#[]⟩ : ByteArray), .string (⟨#[]⟩ : ByteArray)]) ?_ 1 _ rfl; (with_reducible repeat (first | refine blk_drewN ?_ _ | refine blk_drew ?_ | refine blk_alloc ?_ _)); refine blk_put (cs := #[.string (⟨#[]⟩ : ByteArray), .int .u64 0, .int .i64 0, .string (⟨#[]⟩ : ByteArray), .string (⟨#[]⟩ : ByteArray)]) ?_ 0 _ rfl; (with_reducible repeat (first | refine blk_drewN ?_ _ | refine blk_drew ?_ | refine blk_alloc ?_ _)); exact BK371.out) Tryz.underlying28 rfl (by kernel_rfl)) rfl ?_
        exact ⟨eq_, bl_⟩
      ·rw [if_neg c21] at H
       have c21b0 : (x11_15 == 0) = false := beq_eq_false_iff_ne.mpr c21
       have c21b1 : (x11_15 != 0) = true := bne_iff_ne.mpr c21
       simp only [Option.some.injEq, Prod.mk.injEq] at H
       obtain ⟨rfl, rfl, rfl, rfl, rfl, rfl⟩ := H
       have hcz45_0 : wc.cell? ⟨gb371, 0, none⟩ = some (.string (⟨#[]⟩ : ByteArray)) := (blk_cell BK371.out 0).trans rfl
       have hcz45_1 : wc.cell? ⟨gb371, 1, none⟩ = some (.int .u64 0) := (blk_cell BK371.out 1).trans rfl
       have hcz45_2 : wc.cell? ⟨gb371, 2, none⟩ = some (.int .i64 0) := (blk_cell BK371.out 2).trans rfl
       have hcz45_3 : wc.cell? ⟨gb371, 3, none⟩ = some (.string (⟨#[]⟩ : ByteArray)) := (blk_cell BK371.out 3).trans rfl
       have hcz45_4 : wc.cell? ⟨gb371, 4, none⟩ = some (.string (⟨#[]⟩ : ByteArray)) := (blk_cell BK371.out 4).trans rfl
       have hfz45_0 := blk_frozen BK371.out 0
       have hfz45_1 := blk_frozen BK371.out 1
       have hfz45_2 := blk_frozen BK371.out 2
       have hfz45_3 := blk_frozen BK371.out 3
       have hfz45_4 := blk_frozen BK371.out 4
       go_wp2
       refine bodyPost_ret (results_ct rfl _ _ gb371 28 #[.string (⟨#[]⟩ : ByteArray), .int .u64 0, .int .i64 0, .string (⟨#[]⟩ : ByteArray), .string (⟨#[]⟩ : ByteArray)] (0, 0) _ rfl (by (with_reducible repeat (first | refine blk_drewN ?_ _ | refine blk_drew ?_ | refine blk_alloc ?_ _)); refine blk_put (cs := #[.string (⟨#[]⟩ : ByteArray), .int .u64 0, .int .i64 0, .string (⟨#[]⟩ : ByteArray), .string (⟨#[]⟩ : ByteArray)]) ?_ 4 _ rfl; (with_reducible repeat (first | refine blk_drewN ?_ _ | refine blk_drew ?_ | refine blk_alloc ?_ _)); refine blk_put (cs := #[.string (⟨#[]⟩ : ByteArray), .int .u64 0, .int .i64 0, .string (⟨#[]⟩ : ByteArray), .string (⟨#[]⟩ : ByteArray)]) ?_ 3 _ rfl; (with_reducible repeat (first | refine blk_drewN ?_ _ | refine blk_drew ?_ | refine blk_alloc ?_ _)); refine blk_put (cs := #[.string (⟨#[]⟩ : ByteArray), .int .u64 0, .int .i64 0, .string (⟨#[]⟩ : ByteArray), .string (⟨#[]⟩ : ByteArray)]) ?_ 2 _ rfl; (with_reducible repeat (first | refine blk_drewN ?_ _ | refine blk_drew ?_ | refine blk_alloc ?_ _)); refine blk_put (cs := #[.string (⟨#[]⟩ : ByteArray), .int .u64 0, .int .i64 0, .string (⟨#[]⟩ : ByteArray), .string (⟨#[]⟩ : ByteArray)]) ?_ 1 _ rfl; (with_reducible repeat (first | refine blk_drewN ?_ _ | refine blk_drew ?_ | refine blk_alloc ?_ _)); refine blk_put (cs := #[.string (⟨#[]⟩ : ByteArray), .int .u64 0, .int .i64 0, .string (⟨#[]⟩ : ByteArray), .string (⟨#[]⟩ : ByteArray)]) ?_ 0 _ rfl; (with_reducible repeat (first | refine blk_drewN ?_ _ | refine blk_drew ?_ | refine blk_alloc ?_ _)); exact BK371.out) Tryz.underlying28 rfl (by kernel_rfl)) rfl ?_
       exact ⟨eq_, bl_⟩
def letterlockref11_Right.f (k : Nat) (a0_0 : ByteArray) (a0_1 : Int) (a0_2 : Int) (a0_3 : ByteArray) (a0_4 : ByteArray) : Option (Bool) := (letterlockref1_Right.f k a0_0).bind fun t402 => (if t402 = true then (if a0_2 ≥ 0 then (if a0_2 ≤ 8 then ((letterlockref3_Right.f k a0_3).bind fun t403 => (if t403 = true then ((letterlockref3_Kind.f k a0_4).bind fun t404 => (some (t404 == 103))) else (some false))) else (some false)) else (some false)) else (some false))
set_option maxHeartbeats 8000000 in
set_option maxRecDepth 100000 in
theorem letterlockref11_Right.calls (k : Nat) (a0_0 : ByteArray) (a0_1 : Int) (a0_2 : Int) (a0_3 : ByteArray) (a0_4 : ByteArray) (r : Bool) (w : World) (h : letterlockref11_Right.f k a0_0 a0_1 a0_2 a0_3 a0_4 = some r) :
  Calls Tryz.prog 14 #[.agg #[.string a0_0, .int .u64 a0_1, .int .i64 a0_2, .string a0_3, .string a0_4]] w fun e w' => e = .returned (.bool r) ∧ Below w.heap.size w w' := by
 have hu28 := Tryz.underlying28
 have HB := Aside0.mk (Below.refl w.heap.size w)
 unfold letterlockref11_Right.f at h
 have H := h
 clear h
 replace H := Option.bind_eq_some_iff.mp H
 obtain ⟨t402, A20, H⟩ := H
 try dsimp only at H
 have A2 := Aside0.mk A20
 clear A20
 by_cases c3 : t402 = true
 ·subst c3
  rw [if_pos rfl] at H
  by_cases c4 : a0_2 ≥ 0
  ·rw [if_pos c4] at H
   have c4b0 : decide (0 ≤ a0_2) = true := decide_eq_true c4
   clear c4
   by_cases c5 : a0_2 ≤ 8
   ·rw [if_pos c5] at H
    have c5b0 : decide (a0_2 ≤ 8) = true := decide_eq_true c5
    clear c5
    replace H := Option.bind_eq_some_iff.mp H
    obtain ⟨t403, A60, H⟩ := H
    try dsimp only at H
    have A6 := Aside0.mk A60
    clear A60
    by_cases c7 : t403 = true
    ·subst c7
     rw [if_pos rfl] at H
     replace H := Option.bind_eq_some_iff.mp H
     obtain ⟨t404, A80, H⟩ := H
     try dsimp only at H
     have A8 := Aside0.mk A80
     clear A80
     obtain rfl := Option.some.inj H
     go_enter Tryz.func14, Tryz.ntmps14
     go_wp2_with (first | ((with_reducible refine gate_dst (N := 1) rfl ?_); refine box_event ?hg (N := 1) ?hd (cs := #[.string a0_0, .int .u64 a0_1, .int .i64 a0_2, .string a0_3, .string a0_4]) (t := 28) ?hr ?_; (case hd => rfl); (case hg => rfl); (case hr => first | (go_simp; done) | (go_simp; rfl)); intro gb401 hg w9 hbox hb; have n0_ := Aside0.mk (below_step bl_ hb); have n1_ := Aside0.mk (hbox); have n2_ := Aside0.mk ((by rw [hg]; exact (below_size bl_) : w.heap.size ≤ gb401)); have n3_ := Aside0.mk ((by rw [hg]; exact (below_size bl_) : w.heap.size ≤ gb401)); clear HB; have HB := n0_; have BK401 := n1_; have GW401 := n2_; have GE401 := n3_; clear n0_ n1_ n2_ n3_; clear hb hbox hg; have hcz10_0 : w9.cell? ⟨gb401, 0, none⟩ = some (.string a0_0) := (blk_cell BK401.out 0).trans rfl; have hcz10_1 : w9.cell? ⟨gb401, 1, none⟩ = some (.int .u64 a0_1) := (blk_cell BK401.out 1).trans rfl; have hcz10_2 : w9.cell? ⟨gb401, 2, none⟩ = some (.int .i64 a0_2) := (blk_cell BK401.out 2).trans rfl; have hcz10_3 : w9.cell? ⟨gb401, 3, none⟩ = some (.string a0_3) := (blk_cell BK401.out 3).trans rfl; have hcz10_4 : w9.cell? ⟨gb401, 4, none⟩ = some (.string a0_4) := (blk_cell BK401.out 4).trans rfl; have hfz10_0 := blk_frozen BK401.out 0; have hfz10_1 := blk_frozen BK401.out 1; have hfz10_2 := blk_frozen BK401.out 2; have hfz10_3 := blk_frozen BK401.out 3; have hfz10_4 := blk_frozen BK401.out 4) | ((with_reducible refine gate_callee (f := 28) rfl ?_); refine gL (some 5) Tryz.func28 #[.string a0_0] rfl ?_; (with_reducible refine (letterlockref1_Right.calls k a0_0 true _ A2.out).mono ?_); rintro e w11 ⟨rfl, hb⟩; refine ⟨_, rfl, ?_⟩; have n0_ := Aside0.mk (blk_below (g := gb401) (o := .cells #[.string a0_0, .int .u64 a0_1, .int .i64 a0_2, .string a0_3, .string a0_4] 28 (0, 0)) kl_ hb); have n1_ := Aside0.mk (below_step bl_ hb); clear BK401; clear HB; have BK401 := n0_; have HB := n1_; clear n0_ n1_; (try clear hb); have hcz12_0 : w11.cell? ⟨gb401, 0, none⟩ = some (.string a0_0) := (blk_cell BK401.out 0).trans rfl; have hcz12_1 : w11.cell? ⟨gb401, 1, none⟩ = some (.int .u64 a0_1) := (blk_cell BK401.out 1).trans rfl; have hcz12_2 : w11.cell? ⟨gb401, 2, none⟩ = some (.int .i64 a0_2) := (blk_cell BK401.out 2).trans rfl; have hcz12_3 : w11.cell? ⟨gb401, 3, none⟩ = some (.string a0_3) := (blk_cell BK401.out 3).trans rfl; have hcz12_4 : w11.cell? ⟨gb401, 4, none⟩ = some (.string a0_4) := (blk_cell BK401.out 4).trans rfl; have hfz12_0 := blk_frozen BK401.out 0; have hfz12_1 := blk_frozen BK401.out 1; have hfz12_2 := blk_frozen BK401.out 2; have hfz12_3 := blk_frozen BK401.out 3; have hfz12_4 := blk_frozen BK401.out 4) | (go_at_call 27; (with_reducible refine (letterlockref3_Right.calls k a0_3 true _ A6.out).mono ?_); rintro e w13 ⟨rfl, hb⟩; have n0_ := Aside0.mk (blk_below (g := gb401) (o := .cells #[.string a0_0, .int .u64 a0_1, .int .i64 a0_2, .string a0_3, .string a0_4] 28 (0, 0)) kl_ hb); have n1_ := Aside0.mk (below_step bl_ hb); clear BK401; clear HB; have BK401 := n0_; have HB := n1_; clear n0_ n1_; (try clear hb); have hcz14_0 : w13.cell? ⟨gb401, 0, none⟩ = some (.string a0_0) := (blk_cell BK401.out 0).trans rfl; have hcz14_1 : w13.cell? ⟨gb401, 1, none⟩ = some (.int .u64 a0_1) := (blk_cell BK401.out 1).trans rfl; have hcz14_2 : w13.cell? ⟨gb401, 2, none⟩ = some (.int .i64 a0_2) := (blk_cell BK401.out 2).trans rfl; have hcz14_3 : w13.cell? ⟨gb401, 3, none⟩ = some (.string a0_3) := (blk_cell BK401.out 3).trans rfl; have hcz14_4 : w13.cell? ⟨gb401, 4, none⟩ = some (.string a0_4) := (blk_cell BK401.out 4).trans rfl; have hfz14_0 := blk_frozen BK401.out 0; have hfz14_1 := blk_frozen BK401.out 1; have hfz14_2 := blk_frozen BK401.out 2; have hfz14_3 := blk_frozen BK401.out 3; have hfz14_4 := blk_frozen BK401.out 4) | (go_at_call 41; (with_reducible refine (letterlockref3_Kind.calls k a0_4 t404 _ A8.out).mono ?_); rintro e w15 ⟨rfl, hb⟩; have n0_ := Aside0.mk (blk_below (g := gb401) (o := .cells #[.string a0_0, .int .u64 a0_1, .int .i64 a0_2, .string a0_3, .string a0_4] 28 (0, 0)) kl_ hb); have n1_ := Aside0.mk (below_step bl_ hb); clear BK401; clear HB; have BK401 := n0_; have HB := n1_; clear n0_ n1_; (try clear hb)))
     go_ret
     exact ⟨eq_, bl_⟩
    ·replace c7 := Bool.eq_false_iff.mpr c7
     subst c7
     rw [if_neg (show ¬ (false = true) by decide)] at H
     obtain rfl := Option.some.inj H
     go_enter Tryz.func14, Tryz.ntmps14
     go_wp2_with (first | ((with_reducible refine gate_dst (N := 1) rfl ?_); refine box_event ?hg (N := 1) ?hd (cs := #[.string a0_0, .int .u64 a0_1, .int .i64 a0_2, .string a0_3, .string a0_4]) (t := 28) ?hr ?_; (case hd => rfl); (case hg => rfl); (case hr => first | (go_simp; done) | (go_simp; rfl)); intro gb401 hg w16 hbox hb; have n0_ := Aside0.mk (below_step bl_ hb); have n1_ := Aside0.mk (hbox); have n2_ := Aside0.mk ((by rw [hg]; exact (below_size bl_) : w.heap.size ≤ gb401)); have n3_ := Aside0.mk ((by rw [hg]; exact (below_size bl_) : w.heap.size ≤ gb401)); clear HB; have HB := n0_; have BK401 := n1_; have GW401 := n2_; have GE401 := n3_; clear n0_ n1_ n2_ n3_; clear hb hbox hg; have hcz17_0 : w16.cell? ⟨gb401, 0, none⟩ = some (.string a0_0) := (blk_cell BK401.out 0).trans rfl; have hcz17_1 : w16.cell? ⟨gb401, 1, none⟩ = some (.int .u64 a0_1) := (blk_cell BK401.out 1).trans rfl; have hcz17_2 : w16.cell? ⟨gb401, 2, none⟩ = some (.int .i64 a0_2) := (blk_cell BK401.out 2).trans rfl; have hcz17_3 : w16.cell? ⟨gb401, 3, none⟩ = some (.string a0_3) := (blk_cell BK401.out 3).trans rfl; have hcz17_4 : w16.cell? ⟨gb401, 4, none⟩ = some (.string a0_4) := (blk_cell BK401.out 4).trans rfl; have hfz17_0 := blk_frozen BK401.out 0; have hfz17_1 := blk_frozen BK401.out 1; have hfz17_2 := blk_frozen BK401.out 2; have hfz17_3 := blk_frozen BK401.out 3; have hfz17_4 := blk_frozen BK401.out 4) | ((with_reducible refine gate_callee (f := 28) rfl ?_); refine gL (some 5) Tryz.func28 #[.string a0_0] rfl ?_; (with_reducible refine (letterlockref1_Right.calls k a0_0 true _ A2.out).mono ?_); rintro e w18 ⟨rfl, hb⟩; refine ⟨_, rfl, ?_⟩; have n0_ := Aside0.mk (blk_below (g := gb401) (o := .cells #[.string a0_0, .int .u64 a0_1, .int .i64 a0_2, .string a0_3, .string a0_4] 28 (0, 0)) kl_ hb); have n1_ := Aside0.mk (below_step bl_ hb); clear BK401; clear HB; have BK401 := n0_; have HB := n1_; clear n0_ n1_; (try clear hb); have hcz19_0 : w18.cell? ⟨gb401, 0, none⟩ = some (.string a0_0) := (blk_cell BK401.out 0).trans rfl; have hcz19_1 : w18.cell? ⟨gb401, 1, none⟩ = some (.int .u64 a0_1) := (blk_cell BK401.out 1).trans rfl; have hcz19_2 : w18.cell? ⟨gb401, 2, none⟩ = some (.int .i64 a0_2) := (blk_cell BK401.out 2).trans rfl; have hcz19_3 : w18.cell? ⟨gb401, 3, none⟩ = some (.string a0_3) := (blk_cell BK401.out 3).trans rfl; have hcz19_4 : w18.cell? ⟨gb401, 4, none⟩ = some (.string a0_4) := (blk_cell BK401.out 4).trans rfl; have hfz19_0 := blk_frozen BK401.out 0; have hfz19_1 := blk_frozen BK401.out 1; have hfz19_2 := blk_frozen BK401.out 2; have hfz19_3 := blk_frozen BK401.out 3; have hfz19_4 := blk_frozen BK401.out 4) | (go_at_call 27; (with_reducible refine (letterlockref3_Right.calls k a0_3 false _ A6.out).mono ?_); rintro e w20 ⟨rfl, hb⟩; have n0_ := Aside0.mk (blk_below (g := gb401) (o := .cells #[.string a0_0, .int .u64 a0_1, .int .i64 a0_2, .string a0_3, .string a0_4] 28 (0, 0)) kl_ hb); have n1_ := Aside0.mk (below_step bl_ hb); clear BK401; clear HB; have BK401 := n0_; have HB := n1_; clear n0_ n1_; (try clear hb)))
     go_ret
     exact ⟨eq_, bl_⟩
   ·rw [if_neg c5] at H
    have c5b0 : decide (a0_2 ≤ 8) = false := decide_eq_false c5
    clear c5
    obtain rfl := Option.some.inj H
    go_enter Tryz.func14, Tryz.ntmps14
    go_wp2_with (first | ((with_reducible refine gate_dst (N := 1) rfl ?_); refine box_event ?hg (N := 1) ?hd (cs := #[.string a0_0, .int .u64 a0_1, .int .i64 a0_2, .string a0_3, .string a0_4]) (t := 28) ?hr ?_; (case hd => rfl); (case hg => rfl); (case hr => first | (go_simp; done) | (go_simp; rfl)); intro gb401 hg w21 hbox hb; have n0_ := Aside0.mk (below_step bl_ hb); have n1_ := Aside0.mk (hbox); have n2_ := Aside0.mk ((by rw [hg]; exact (below_size bl_) : w.heap.size ≤ gb401)); have n3_ := Aside0.mk ((by rw [hg]; exact (below_size bl_) : w.heap.size ≤ gb401)); clear HB; have HB := n0_; have BK401 := n1_; have GW401 := n2_; have GE401 := n3_; clear n0_ n1_ n2_ n3_; clear hb hbox hg; have hcz22_0 : w21.cell? ⟨gb401, 0, none⟩ = some (.string a0_0) := (blk_cell BK401.out 0).trans rfl; have hcz22_1 : w21.cell? ⟨gb401, 1, none⟩ = some (.int .u64 a0_1) := (blk_cell BK401.out 1).trans rfl; have hcz22_2 : w21.cell? ⟨gb401, 2, none⟩ = some (.int .i64 a0_2) := (blk_cell BK401.out 2).trans rfl; have hcz22_3 : w21.cell? ⟨gb401, 3, none⟩ = some (.string a0_3) := (blk_cell BK401.out 3).trans rfl; have hcz22_4 : w21.cell? ⟨gb401, 4, none⟩ = some (.string a0_4) := (blk_cell BK401.out 4).trans rfl; have hfz22_0 := blk_frozen BK401.out 0; have hfz22_1 := blk_frozen BK401.out 1; have hfz22_2 := blk_frozen BK401.out 2; have hfz22_3 := blk_frozen BK401.out 3; have hfz22_4 := blk_frozen BK401.out 4) | ((with_reducible refine gate_callee (f := 28) rfl ?_); refine gL (some 5) Tryz.func28 #[.string a0_0] rfl ?_; (with_reducible refine (letterlockref1_Right.calls k a0_0 true _ A2.out).mono ?_); rintro e w23 ⟨rfl, hb⟩; refine ⟨_, rfl, ?_⟩; have n0_ := Aside0.mk (blk_below (g := gb401) (o := .cells #[.string a0_0, .int .u64 a0_1, .int .i64 a0_2, .string a0_3, .string a0_4] 28 (0, 0)) kl_ hb); have n1_ := Aside0.mk (below_step bl_ hb); clear BK401; clear HB; have BK401 := n0_; have HB := n1_; clear n0_ n1_; (try clear hb); have hcz24_0 : w23.cell? ⟨gb401, 0, none⟩ = some (.string a0_0) := (blk_cell BK401.out 0).trans rfl; have hcz24_1 : w23.cell? ⟨gb401, 1, none⟩ = some (.int .u64 a0_1) := (blk_cell BK401.out 1).trans rfl; have hcz24_2 : w23.cell? ⟨gb401, 2, none⟩ = some (.int .i64 a0_2) := (blk_cell BK401.out 2).trans rfl; have hcz24_3 : w23.cell? ⟨gb401, 3, none⟩ = some (.string a0_3) := (blk_cell BK401.out 3).trans rfl; have hcz24_4 : w23.cell? ⟨gb401, 4, none⟩ = some (.string a0_4) := (blk_cell BK401.out 4).trans rfl; have hfz24_0 := blk_frozen BK401.out 0; have hfz24_1 := blk_frozen BK401.out 1; have hfz24_2 := blk_frozen BK401.out 2; have hfz24_3 := blk_frozen BK401.out 3; have hfz24_4 := blk_frozen BK401.out 4))
    go_ret
    exact ⟨eq_, bl_⟩
  ·rw [if_neg c4] at H
   have c4b0 : decide (0 ≤ a0_2) = false := decide_eq_false c4
   clear c4
   obtain rfl := Option.some.inj H
   go_enter Tryz.func14, Tryz.ntmps14
   go_wp2_with (first | ((with_reducible refine gate_dst (N := 1) rfl ?_); refine box_event ?hg (N := 1) ?hd (cs := #[.string a0_0, .int .u64 a0_1, .int .i64 a0_2, .string a0_3, .string a0_4]) (t := 28) ?hr ?_; (case hd => rfl); (case hg => rfl); (case hr => first | (go_simp; done) | (go_simp; rfl)); intro gb401 hg w25 hbox hb; have n0_ := Aside0.mk (below_step bl_ hb); have n1_ := Aside0.mk (hbox); have n2_ := Aside0.mk ((by rw [hg]; exact (below_size bl_) : w.heap.size ≤ gb401)); have n3_ := Aside0.mk ((by rw [hg]; exact (below_size bl_) : w.heap.size ≤ gb401)); clear HB; have HB := n0_; have BK401 := n1_; have GW401 := n2_; have GE401 := n3_; clear n0_ n1_ n2_ n3_; clear hb hbox hg; have hcz26_0 : w25.cell? ⟨gb401, 0, none⟩ = some (.string a0_0) := (blk_cell BK401.out 0).trans rfl; have hcz26_1 : w25.cell? ⟨gb401, 1, none⟩ = some (.int .u64 a0_1) := (blk_cell BK401.out 1).trans rfl; have hcz26_2 : w25.cell? ⟨gb401, 2, none⟩ = some (.int .i64 a0_2) := (blk_cell BK401.out 2).trans rfl; have hcz26_3 : w25.cell? ⟨gb401, 3, none⟩ = some (.string a0_3) := (blk_cell BK401.out 3).trans rfl; have hcz26_4 : w25.cell? ⟨gb401, 4, none⟩ = some (.string a0_4) := (blk_cell BK401.out 4).trans rfl; have hfz26_0 := blk_frozen BK401.out 0; have hfz26_1 := blk_frozen BK401.out 1; have hfz26_2 := blk_frozen BK401.out 2; have hfz26_3 := blk_frozen BK401.out 3; have hfz26_4 := blk_frozen BK401.out 4) | ((with_reducible refine gate_callee (f := 28) rfl ?_); refine gL (some 5) Tryz.func28 #[.string a0_0] rfl ?_; (with_reducible refine (letterlockref1_Right.calls k a0_0 true _ A2.out).mono ?_); rintro e w27 ⟨rfl, hb⟩; refine ⟨_, rfl, ?_⟩; have n0_ := Aside0.mk (blk_below (g := gb401) (o := .cells #[.string a0_0, .int .u64 a0_1, .int .i64 a0_2, .string a0_3, .string a0_4] 28 (0, 0)) kl_ hb); have n1_ := Aside0.mk (below_step bl_ hb); clear BK401; clear HB; have BK401 := n0_; have HB := n1_; clear n0_ n1_; (try clear hb); have hcz28_0 : w27.cell? ⟨gb401, 0, none⟩ = some (.string a0_0) := (blk_cell BK401.out 0).trans rfl; have hcz28_1 : w27.cell? ⟨gb401, 1, none⟩ = some (.int .u64 a0_1) := (blk_cell BK401.out 1).trans rfl; have hcz28_2 : w27.cell? ⟨gb401, 2, none⟩ = some (.int .i64 a0_2) := (blk_cell BK401.out 2).trans rfl; have hcz28_3 : w27.cell? ⟨gb401, 3, none⟩ = some (.string a0_3) := (blk_cell BK401.out 3).trans rfl; have hcz28_4 : w27.cell? ⟨gb401, 4, none⟩ = some (.string a0_4) := (blk_cell BK401.out 4).trans rfl; have hfz28_0 := blk_frozen BK401.out 0; have hfz28_1 := blk_frozen BK401.out 1; have hfz28_2 := blk_frozen BK401.out 2; have hfz28_3 := blk_frozen BK401.out 3; have hfz28_4 := blk_frozen BK401.out 4))
   go_ret
   exact ⟨eq_, bl_⟩
 ·replace c3 := Bool.eq_false_iff.mpr c3
  subst c3
  rw [if_neg (show ¬ (false = true) by decide)] at H
  obtain rfl := Option.some.inj H
  go_enter Tryz.func14, Tryz.ntmps14
  go_wp2_with (first | ((with_reducible refine gate_dst (N := 1) rfl ?_); refine box_event ?hg (N := 1) ?hd (cs := #[.string a0_0, .int .u64 a0_1, .int .i64 a0_2, .string a0_3, .string a0_4]) (t := 28) ?hr ?_; (case hd => rfl); (case hg => rfl); (case hr => first | (go_simp; done) | (go_simp; rfl)); intro gb401 hg w29 hbox hb; have n0_ := Aside0.mk (below_step bl_ hb); have n1_ := Aside0.mk (hbox); have n2_ := Aside0.mk ((by rw [hg]; exact (below_size bl_) : w.heap.size ≤ gb401)); have n3_ := Aside0.mk ((by rw [hg]; exact (below_size bl_) : w.heap.size ≤ gb401)); clear HB; have HB := n0_; have BK401 := n1_; have GW401 := n2_; have GE401 := n3_; clear n0_ n1_ n2_ n3_; clear hb hbox hg; have hcz30_0 : w29.cell? ⟨gb401, 0, none⟩ = some (.string a0_0) := (blk_cell BK401.out 0).trans rfl; have hcz30_1 : w29.cell? ⟨gb401, 1, none⟩ = some (.int .u64 a0_1) := (blk_cell BK401.out 1).trans rfl; have hcz30_2 : w29.cell? ⟨gb401, 2, none⟩ = some (.int .i64 a0_2) := (blk_cell BK401.out 2).trans rfl; have hcz30_3 : w29.cell? ⟨gb401, 3, none⟩ = some (.string a0_3) := (blk_cell BK401.out 3).trans rfl; have hcz30_4 : w29.cell? ⟨gb401, 4, none⟩ = some (.string a0_4) := (blk_cell BK401.out 4).trans rfl; have hfz30_0 := blk_frozen BK401.out 0; have hfz30_1 := blk_frozen BK401.out 1; have hfz30_2 := blk_frozen BK401.out 2; have hfz30_3 := blk_frozen BK401.out 3; have hfz30_4 := blk_frozen BK401.out 4) | ((with_reducible refine gate_callee (f := 28) rfl ?_); refine gL (some 5) Tryz.func28 #[.string a0_0] rfl ?_; (with_reducible refine (letterlockref1_Right.calls k a0_0 false _ A2.out).mono ?_); rintro e w31 ⟨rfl, hb⟩; refine ⟨_, rfl, ?_⟩; have n0_ := Aside0.mk (blk_below (g := gb401) (o := .cells #[.string a0_0, .int .u64 a0_1, .int .i64 a0_2, .string a0_3, .string a0_4] 28 (0, 0)) kl_ hb); have n1_ := Aside0.mk (below_step bl_ hb); clear BK401; clear HB; have BK401 := n0_; have HB := n1_; clear n0_ n1_; (try clear hb)))
  go_ret
  exact ⟨eq_, bl_⟩
end Go.Proofs.YtodiffgpefidoaaGreatDoor.P

