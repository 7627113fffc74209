/- Slimmed by wip/slim.py. -/
import Derived.Test.YtodiffgpefidoaaGreatDoorG0
import Derived.Test.YtodiffgpefidoaaGreatDoorGRef11
import Derived.Test.YtodiffgpefidoaaGreatDoorGRef2
import Derived.Test.YtodiffgpefidoaaGreatDoorGRef3
import Derived.Test.YtodiffgpefidoaaGreatDoorGRef31
namespace Go.Proofs.YtodiffgpefidoaaGreatDoor.P
open Go.RowKit Go.Proofs.YtodiffgpefidoaaGreatDoorW.PrintWords Go.Proofs.YtodiffgpefidoaaGreatDoorW.PrintLast Go.Proofs.YtodiffgpefidoaaGreatDoorW.PrintMore
attribute [local go_sem] max2_int min2_int max_two min_two max_three min_three max_four min_four
set_option linter.unusedVariables false
set_option linter.unusedSimpArgs false
def letterlockref11_Put.f (k : Nat) (a0_0 : ByteArray) (a0_1 : Int) (a0_2 : Int) (a0_3 : ByteArray) (a0_4 : ByteArray) : Option (ByteArray × Int) := (letterlockref11_Right.f k a0_0 a0_1 a0_2 a0_3 a0_4).bind fun t409 => (if t409 = true then ((letterlockref2_Put.f k a0_1).bind fun t410 => ((letterlockref2_Put.f k (IntKind.u64.wrap (a0_2))).bind fun t411 => ((letterlockref2_PutAll.f k (([a0_0, t410, t411, a0_3, a0_4] : List ByteArray))).bind fun t415 => (some (t415, 0))))) else (some ((⟨#[]⟩ : ByteArray), 1)))
def letterlockref11_Put.T3 : Bool × List (List Nat × List Nat) := (true, [([], []), ([0], [0]), ([], []), ([2], [2]), ([3], [3]), ([], []), ([5], [5]), ([6], [6]), ([7, 4], [7]), ([], []), ([9], [9]), ([], []), ([11], [11]), ([1, 4, 8, 10, 12], [1, 4, 8, 10, 12]), ([13, 8], [13]), ([14, 14, 0, 1, 2, 3, 4, 5, 6, 7, 8, 9, 10, 11, 12, 13, 14], [14]), ([15, 0, 1, 2, 3, 4, 5, 6, 7, 8, 9, 10, 11, 12, 13, 14, 15], [])])
def letterlockref11_Put.B3 : List Nat := [0, 1, 0, 4, 12, 0, 32, 96, 252, 0, 512, 0, 2048, 8191, 16383, 32767, 65535]
theorem letterlockref11_Put.tab3 : rtab .any (opsOf Tryz.f10 3) = letterlockref11_Put.T3 := by kernel_rfl
theorem letterlockref11_Put.bits3 : waitsOk letterlockref11_Put.T3.2 letterlockref11_Put.B3 = true := by kernel_rfl
set_option maxHeartbeats 8000000 in
set_option maxRecDepth 100000 in
theorem letterlockref11_Put.calls (k : Nat) (a0_0 : ByteArray) (a0_1 : Int) (a0_2 : Int) (a0_3 : ByteArray) (a0_4 : ByteArray) (r1 : ByteArray) (r2 : Int) (w : World) (h : letterlockref11_Put.f k a0_0 a0_1 a0_2 a0_3 a0_4 = some (r1, r2)) :
  Calls Tryz.prog 10 #[.agg #[.string a0_0, .int .u64 a0_1, .int .i64 a0_2, .string a0_3, .string a0_4]] w fun e w' => e = .returned (.tuple #[.string r1, .int .i64 r2]) ∧ Below w.heap.size w w' := by
 have hu28 := Tryz.underlying28
 have HB := Aside0.mk (Below.refl w.heap.size w)
 unfold letterlockref11_Put.f at h
 have H := h
 clear h
 replace H := Option.bind_eq_some_iff.mp H
 obtain ⟨t409, A20, H⟩ := H
 try dsimp only at H
 have A2 := Aside0.mk A20
 clear A20
 by_cases c3 : t409 = true
 ·subst c3
  rw [if_pos rfl] at H
  replace H := Option.bind_eq_some_iff.mp H
  obtain ⟨t410, A40, H⟩ := H
  try dsimp only at H
  have A4 := Aside0.mk A40
  clear A40
  replace H := Option.bind_eq_some_iff.mp H
  obtain ⟨t411, A50, H⟩ := H
  try dsimp only at H
  have A5 := Aside0.mk A50
  clear A50
  obtain ⟨y412, hy412⟩ : ∃ y_ : List ByteArray, y_ = (([a0_0, t410, t411, a0_3, a0_4] : List ByteArray)) := ⟨_, rfl⟩
  replace H : ((letterlockref2_PutAll.f k y412).bind fun t415 => (some (t415, 0))) = some (r1, r2) := by first | (rw [hy412]; with_reducible exact H) | (have H2_ := (Option.bind_some _ _).symm.trans H; rw [hy412]; with_reducible exact H2_) | (have H2_ := (Option.bind_some _ _).symm.trans H; with_reducible exact H2_) | with_reducible exact H | (rw [hy412]; exact H) | exact H
  have Ny412 := Aside0.mk hy412
  clear hy412
  replace H := Option.bind_eq_some_iff.mp H
  obtain ⟨t415, A60, H⟩ := H
  try dsimp only at H
  have A6 := Aside0.mk A60
  clear A60
  simp only [Option.some.injEq, Prod.mk.injEq] at H
  obtain ⟨rfl, rfl⟩ := H
  go_enter Tryz.func10, Tryz.ntmps10
  try go_wp2_with (first | ((with_reducible refine gate_dst (N := 1) rfl ?_); refine box_event ?hg (N := 1) ?hd (cs := #[.string a0_0, .int .u64 a0_1, .int .i64 a0_2, .string a0_3, .string a0_4]) (t := 28) ?hr ?_; (case hd => rfl); (case hg => rfl); (case hr => first | (go_simp; done) | (go_simp; rfl)); intro gb408 hg w7 hbox hb; have n0_ := Aside0.mk (below_step bl_ hb); have n1_ := Aside0.mk (hbox); have n2_ := Aside0.mk ((by rw [hg]; exact (below_size bl_) : w.heap.size ≤ gb408)); have n3_ := Aside0.mk ((by rw [hg]; exact (below_size bl_) : w.heap.size ≤ gb408)); clear HB; have HB := n0_; have BK408 := n1_; have GW408 := n2_; have GE408 := n3_; clear n0_ n1_ n2_ n3_; clear hb hbox hg; have hcz8_0 : w7.cell? ⟨gb408, 0, none⟩ = some (.string a0_0) := (blk_cell BK408.out 0).trans rfl; have hcz8_1 : w7.cell? ⟨gb408, 1, none⟩ = some (.int .u64 a0_1) := (blk_cell BK408.out 1).trans rfl; have hcz8_2 : w7.cell? ⟨gb408, 2, none⟩ = some (.int .i64 a0_2) := (blk_cell BK408.out 2).trans rfl; have hcz8_3 : w7.cell? ⟨gb408, 3, none⟩ = some (.string a0_3) := (blk_cell BK408.out 3).trans rfl; have hcz8_4 : w7.cell? ⟨gb408, 4, none⟩ = some (.string a0_4) := (blk_cell BK408.out 4).trans rfl; have hfz8_0 := blk_frozen BK408.out 0; have hfz8_1 := blk_frozen BK408.out 1; have hfz8_2 := blk_frozen BK408.out 2; have hfz8_3 := blk_frozen BK408.out 3; have hfz8_4 := blk_frozen BK408.out 4) | ((with_reducible refine gate_callee (f := 14) rfl ?_); refine gL (some 5) Tryz.func14 #[.agg #[.string a0_0, .int .u64 a0_1, .int .i64 a0_2, .string a0_3, .string a0_4]] rfl ?_; (with_reducible refine (letterlockref11_Right.calls k a0_0 a0_1 a0_2 a0_3 a0_4 true _ A2.out).mono ?_); rintro e w9 ⟨rfl, hb⟩; refine ⟨_, rfl, ?_⟩; have n0_ := Aside0.mk (blk_below (g := gb408) (o := .cells #[.string a0_0, .int .u64 a0_1, .int .i64 a0_2, .string a0_3, .string a0_4] 28 (0, 0)) kl_ hb); have n1_ := Aside0.mk (below_step bl_ hb); clear BK408; clear HB; have BK408 := n0_; have HB := n1_; clear n0_ n1_; (try clear hb)))
  have n0_ := Aside0.mk (blk_drew BK408.out)
  have n1_ := Aside0.mk (below_drew1 HB.out)
  clear BK408
  clear HB
  have BK408 := n0_
  have HB := n1_
  clear n0_ n1_
  refine start_ (n := 17) (S := fun w' => w'.cell? ⟨gb408, 0, none⟩ = some (.string a0_0) ∧ w'.cell? ⟨gb408, 1, none⟩ = some (.int .u64 a0_1) ∧ w'.cell? ⟨gb408, 2, none⟩ = some (.int .i64 a0_2) ∧ w'.cell? ⟨gb408, 3, none⟩ = some (.string a0_3) ∧ w'.cell? ⟨gb408, 4, none⟩ = some (.string a0_4)) (ds := []) #[false, false, false, false, false, false, false, false, false, false, false, false, false, false, false, false, false] (by kernel_rfl) rfl rfl ⟨(blk_cell BK408.out 0).trans rfl, (blk_cell BK408.out 1).trans rfl, (blk_cell BK408.out 2).trans rfl, (blk_cell BK408.out 3).trans rfl, (blk_cell BK408.out 4).trans rfl⟩ (fun hHeld => ?_); refine with_tabW letterlockref11_Put.tab3 letterlockref11_Put.bits3 (fun HT_ HW_ => ?_)
  generalize w9.drew = w10 at BK408 HB hHeld ⊢
  refine pS (i := 0) (N := some 7) (bn 17 1) rfl HT_.out ?_
  refine pS (i := 2) (N := some 9) (bn 17 5) rfl HT_.out ?_
  refine pS (i := 5) (N := some 12) (bn 17 37) rfl HT_.out ?_
  refine pS (i := 9) (N := some 16) (bn 17 549) rfl HT_.out ?_
  refine pS (i := 11) (N := some 18) (bn 17 2597) rfl HT_.out ?_
  refine tS (i := 1) (N := some 8) (bn 17 2599) rfl HT_.out HW_.out hHeld (fun w' ⟨s0, s1, s2, s3, s4⟩ => by go_simp; with_reducible rfl) ?_
  refine tS (i := 3) (N := some 10) (bn 17 2607) rfl HT_.out HW_.out hHeld (fun w' ⟨s0, s1, s2, s3, s4⟩ => by go_simp; with_reducible rfl) ?_
  refine tS (i := 6) (N := some 13) (bn 17 2671) rfl HT_.out HW_.out hHeld (fun w' ⟨s0, s1, s2, s3, s4⟩ => by go_simp; with_reducible rfl) ?_
  refine pS (i := 7) (N := some 14) (bn 17 2799) rfl HT_.out ?_
  refine tS (i := 10) (N := some 17) (bn 17 3823) rfl HT_.out HW_.out hHeld (fun w' ⟨s0, s1, s2, s3, s4⟩ => by go_simp; with_reducible rfl) ?_
  refine tS (i := 12) (N := some 19) (bn 17 7919) rfl HT_.out HW_.out hHeld (fun w' ⟨s0, s1, s2, s3, s4⟩ => by go_simp; with_reducible rfl) ?_
  refine oS (i := 4) (N := some 11) (bn 17 7935) rfl HT_.out (fun K hK => ?_)
  refine gS Tryz.func36 #[.int .u64 a0_1] rfl ?_
  with_reducible refine (letterlockref2_Put.calls k a0_1 t410 _ A4.out).mono ?_
  rintro e w11 ⟨rfl, hb⟩
  refine ⟨_, rfl, ?_⟩
  have n0_ := Aside0.mk (blk_below (g := gb408) (o := .cells #[.string a0_0, .int .u64 a0_1, .int .i64 a0_2, .string a0_3, .string a0_4] 28 (0, 0)) kl_ hb)
  have n1_ := Aside0.mk (below_step bl_ hb)
  clear BK408
  clear HB
  have BK408 := n0_
  have HB := n1_
  clear n0_ n1_
  (try clear hb)
  (try clear hb2)
  (try clear hk)
  (try clear hi)
  refine hK.out _ _ ⟨(blk_cell BK408.out 0).trans rfl, (blk_cell BK408.out 1).trans rfl, (blk_cell BK408.out 2).trans rfl, (blk_cell BK408.out 3).trans rfl, (blk_cell BK408.out 4).trans rfl⟩ (fun hHeld => ?_)
  clear hK K
  refine nS (some 11) ?_
  refine oS (i := 8) (N := some 15) (bn 17 8191) rfl HT_.out (fun K hK => ?_)
  refine gS Tryz.func36 #[.int .u64 (IntKind.u64.wrap (a0_2))] rfl ?_
  with_reducible refine (letterlockref2_Put.calls k (IntKind.u64.wrap (a0_2)) t411 _ A5.out).mono ?_
  rintro e w12 ⟨rfl, hb⟩
  refine ⟨_, rfl, ?_⟩
  have n0_ := Aside0.mk (blk_below (g := gb408) (o := .cells #[.string a0_0, .int .u64 a0_1, .int .i64 a0_2, .string a0_3, .string a0_4] 28 (0, 0)) kl_ hb)
  have n1_ := Aside0.mk (below_step bl_ hb)
  clear BK408
  clear HB
  have BK408 := n0_
  have HB := n1_
  clear n0_ n1_
  (try clear hb)
  (try clear hb2)
  (try clear hk)
  (try clear hi)
  refine hK.out _ _ ⟨(blk_cell BK408.out 0).trans rfl, (blk_cell BK408.out 1).trans rfl, (blk_cell BK408.out 2).trans rfl, (blk_cell BK408.out 3).trans rfl, (blk_cell BK408.out 4).trans rfl⟩ (fun hHeld => ?_)
  clear hK K
  refine nS (some 15) ?_
  refine oS (i := 13) (N := some 20) (bn 17 16383) rfl HT_.out (fun K hK => ?_)
  refine Kd.R_lit_step Kd.string _ 9 ?hg (N := 20) ?hd (xs := ([a0_0, t410, t411, a0_3, a0_4] : List ByteArray)) (inner := [.string a0_0, .string t410, .string t411, .string a0_3, .string a0_4]) (ok := fun _ => True) (okp := fun _ => True) ?hr ?hp (fun _ hk => hk) trivial (Below.refl _ _) (Nat.le_refl _) (by simp) ?_; (case hd => rfl); (case hg => rfl); (case hr => first | (go_simp; done) | (go_simp; rfl)); (case hp => exact (Reps.one (show Kd.M Kd.string _ _ _ a0_0 [.string a0_0] from rfl) (Reps.one (show Kd.M Kd.string _ _ _ t410 [.string t410] from rfl) (Reps.one (show Kd.M Kd.string _ _ _ t411 [.string t411] from rfl) (Reps.one (show Kd.M Kd.string _ _ _ a0_3 [.string a0_3] from rfl) (Reps.one (show Kd.M Kd.string _ _ _ a0_4 [.string a0_4] from rfl) (Reps.none _ _)))))))
  intro v413 w13 ho14 hb hg_ hnew_
  clear hg_ hnew_
  (first | rw [← Ny412.out] at ho14 | (simp only [Int.reduceToNat] at ho14; rw [← Ny412.out] at ho14))
  have n0_ := Aside0.mk (Kd.R_lower ho14 (below_size bl_))
  have n1_ := Aside0.mk (blk_below (g := gb408) (o := .cells #[.string a0_0, .int .u64 a0_1, .int .i64 a0_2, .string a0_3, .string a0_4] 28 (0, 0)) kl_ hb)
  have n2_ := Aside0.mk (below_step bl_ hb)
  clear BK408
  clear HB
  have HO414 := n0_
  have BK408 := n1_
  have HB := n2_
  clear n0_ n1_ n2_
  clear hb ho14
  obtain ⟨Ao15, co15, eo15⟩ := Kd.R_slice HO414.out
  (first | subst eo15 | (injection eo15 with f1_ f2_ f3_; have f4_ := f1_.symm; have f5_ := f3_.symm; clear f1_ f2_ f3_; subst f4_; subst f5_))
  refine hK.out _ _ ⟨(blk_cell BK408.out 0).trans rfl, (blk_cell BK408.out 1).trans rfl, (blk_cell BK408.out 2).trans rfl, (blk_cell BK408.out 3).trans rfl, (blk_cell BK408.out 4).trans rfl⟩ (fun hHeld => ?_)
  clear hK K
  refine nS (some 20) ?_
  refine oS (i := 14) (N := some 21) (bn 17 32767) rfl HT_.out (fun K hK => ?_)
  refine gS Tryz.func35 #[.slice Ao15 y412.length co15] rfl ?_
  with_reducible refine (letterlockref2_PutAll.calls k _ _ y412 t415 _ ?side1 ?side2 A6.out).mono ?_
  (case side1 => repeat (first | exact (Kd.R_reads' HO414.out).2.2 | (with_reducible refine Kd.C_alloc ?_ _) | (with_reducible refine Kd.C_drewN ?_ _) | (with_reducible refine Kd.C_drew ?_)))
  (case side2 => exact (Kd.R_reads' HO414.out).2.1)
  rintro e w16 ⟨rfl, hb⟩
  refine ⟨_, rfl, ?_⟩
  have n0_ := Aside0.mk (Kd.R_below (by (with_reducible repeat (first | apply Kd.R_alloc | apply Kd.R_drewN | apply Kd.R_drew)); exact HO414.out) hb)
  have n1_ := Aside0.mk (blk_below (g := gb408) (o := .cells #[.string a0_0, .int .u64 a0_1, .int .i64 a0_2, .string a0_3, .string a0_4] 28 (0, 0)) kl_ hb)
  have n2_ := Aside0.mk (below_step bl_ hb)
  clear HO414
  clear BK408
  clear HB
  have HO414 := n0_
  have BK408 := n1_
  have HB := n2_
  clear n0_ n1_ n2_
  (try clear hb)
  (try clear hb2)
  (try clear hk)
  (try clear hi)
  refine hK.out _ _ ⟨(blk_cell BK408.out 0).trans rfl, (blk_cell BK408.out 1).trans rfl, (blk_cell BK408.out 2).trans rfl, (blk_cell BK408.out 3).trans rfl, (blk_cell BK408.out 4).trans rfl⟩ (fun hHeld => ?_)
  clear hK K
  refine nS (some 21) ?_
  refine pS (i := 15) (N := some 2) (bn 17 65535) rfl HT_.out ?_
  refine pS (i := 16) (N := some 3) (bn 17 131071) rfl HT_.out ?_
  refine done_ (done_of HT_.out (by kernel_rfl)) ?_
  try go_wp2
  go_ret2
  exact ⟨eq_, bl_⟩
 ·replace c3 := Bool.eq_false_iff.mpr c3
  subst c3
  rw [if_neg (show ¬ (false = true) by decide)] at H
  simp only [Option.some.injEq, Prod.mk.injEq] at H
  obtain ⟨rfl, rfl⟩ := H
  go_enter Tryz.func10, Tryz.ntmps10
  go_wp2_with (first | ((with_reducible refine gate_dst (N := 1) rfl ?_); refine box_event ?hg (N := 1) ?hd (cs := #[.string a0_0, .int .u64 a0_1, .int .i64 a0_2, .string a0_3, .string a0_4]) (t := 28) ?hr ?_; (case hd => rfl); (case hg => rfl); (case hr => first | (go_simp; done) | (go_simp; rfl)); intro gb408 hg w17 hbox hb; have n0_ := Aside0.mk (below_step bl_ hb); have n1_ := Aside0.mk (hbox); have n2_ := Aside0.mk ((by rw [hg]; exact (below_size bl_) : w.heap.size ≤ gb408)); have n3_ := Aside0.mk ((by rw [hg]; exact (below_size bl_) : w.heap.size ≤ gb408)); clear HB; have HB := n0_; have BK408 := n1_; have GW408 := n2_; have GE408 := n3_; clear n0_ n1_ n2_ n3_; clear hb hbox hg; have hcz18_0 : w17.cell? ⟨gb408, 0, none⟩ = some (.string a0_0) := (blk_cell BK408.out 0).trans rfl; have hcz18_1 : w17.cell? ⟨gb408, 1, none⟩ = some (.int .u64 a0_1) := (blk_cell BK408.out 1).trans rfl; have hcz18_2 : w17.cell? ⟨gb408, 2, none⟩ = some (.int .i64 a0_2) := (blk_cell BK408.out 2).trans rfl; have hcz18_3 : w17.cell? ⟨gb408, 3, none⟩ = some (.string a0_3) := (blk_cell BK408.out 3).trans rfl; have hcz18_4 : w17.cell? ⟨gb408, 4, none⟩ = some (.string a0_4) := (blk_cell BK408.out 4).trans rfl; have hfz18_0 := blk_frozen BK408.out 0; have hfz18_1 := blk_frozen BK408.out 1; have hfz18_2 := blk_frozen BK408.out 2; have hfz18_3 := blk_frozen BK408.out 3; have hfz18_4 := blk_frozen BK408.out 4) | ((with_reducible refine gate_callee (f := 14) rfl ?_); refine gL (some 5) Tryz.func14 #[.agg #[.string a0_0, .int .u64 a0_1, .int .i64 a0_2, .string a0_3, .string a0_4]] rfl ?_; (with_reducible refine (letterlockref11_Right.calls k a0_0 a0_1 a0_2 a0_3 a0_4 false _ A2.out).mono ?_); rintro e w19 ⟨rfl, hb⟩; refine ⟨_, rfl, ?_⟩; have n0_ := Aside0.mk (blk_below (g := gb408) (o := .cells #[.string a0_0, .int .u64 a0_1, .int .i64 a0_2, .string a0_3, .string a0_4] 28 (0, 0)) kl_ hb); have n1_ := Aside0.mk (below_step bl_ hb); clear BK408; clear HB; have BK408 := n0_; have HB := n1_; clear n0_ n1_; (try clear hb)))
  go_ret2
  exact ⟨eq_, bl_⟩
mutual
def letterlockref11_Take.j0 : Nat → List ByteArray → Bool → Option (ByteArray × Int × Int × ByteArray × ByteArray × Int)
 | 0, _, _ => none
 | k + 1, x4, x23 => if x23 = true then (some ((⟨#[]⟩ : ByteArray), 0, 0, (⟨#[]⟩ : ByteArray), (⟨#[]⟩ : ByteArray), 2)) else (if 1 < (x4.length : Int) then ((letterlockref2_Take.f k (rdOf ByteArray.empty x4 1)).bind fun bt431 => (if 2 < (x4.length : Int) then ((letterlockref2_Take.f k (rdOf ByteArray.empty x4 2)).bind fun bt435 => (if 0 < (x4.length : Int) then (if 3 < (x4.length : Int) then (if 4 < (x4.length : Int) then (if bt431.2.2 = 0 then (if bt431.2.1.toList = ([] : List UInt8) then (if bt435.2.2 = 0 then (if bt435.2.1.toList = ([] : List UInt8) then (if bt435.1 > 8 then (letterlockref11_Take.j1 k true (rdOf ByteArray.empty x4 0) bt431.1 (wrap64 (bt435.1)) (rdOf ByteArray.empty x4 3) (rdOf ByteArray.empty x4 4)) else ((letterlockref11_Right.f k (rdOf ByteArray.empty x4 0) bt431.1 (wrap64 (bt435.1)) (rdOf ByteArray.empty x4 3) (rdOf ByteArray.empty x4 4)).bind fun t442 => (letterlockref11_Take.j1 k (!t442) (rdOf ByteArray.empty x4 0) bt431.1 (wrap64 (bt435.1)) (rdOf ByteArray.empty x4 3) (rdOf ByteArray.empty x4 4)))) else (letterlockref11_Take.j1 k true (rdOf ByteArray.empty x4 0) bt431.1 (wrap64 (bt435.1)) (rdOf ByteArray.empty x4 3) (rdOf ByteArray.empty x4 4))) else (letterlockref11_Take.j1 k true (rdOf ByteArray.empty x4 0) bt431.1 (wrap64 (bt435.1)) (rdOf ByteArray.empty x4 3) (rdOf ByteArray.empty x4 4))) else (letterlockref11_Take.j1 k true (rdOf ByteArray.empty x4 0) bt431.1 (wrap64 (bt435.1)) (rdOf ByteArray.empty x4 3) (rdOf ByteArray.empty x4 4))) else (letterlockref11_Take.j1 k true (rdOf ByteArray.empty x4 0) bt431.1 (wrap64 (bt435.1)) (rdOf ByteArray.empty x4 3) (rdOf ByteArray.empty x4 4))) else (none)) else (none)) else (none))) else (none))) else (none))
def letterlockref11_Take.j1 : Nat → Bool → ByteArray → Int → Int → ByteArray → ByteArray → Option (ByteArray × Int × Int × ByteArray × ByteArray × Int)
 | 0, _, _, _, _, _, _ => none
 | k + 1, x76, x442000, x442001, x442002, x442003, x442004 => if x76 = true then (some ((⟨#[]⟩ : ByteArray), 0, 0, (⟨#[]⟩ : ByteArray), (⟨#[]⟩ : ByteArray), 2)) else (some (x442000, x442001, x442002, x442003, x442004, 0))
end
def letterlockref11_Take.f (k : Nat) (a0 : ByteArray) : Option (ByteArray × Int × Int × ByteArray × ByteArray × Int) := (letterlockref2_TakeAll.f k a0 5 4000).bind fun bt426 => (if bt426.2 = 0 then (letterlockref11_Take.j0 k bt426.1 ((bt426.1.length : Int) != 5)) else (letterlockref11_Take.j0 k bt426.1 true))
def letterlockref11_Take.T6 : Bool × List (List Nat × List Nat) := (true, [([], []), ([0], [0]), ([1], [1]), ([], []), ([], []), ([4], [4]), ([], []), ([6], [6]), ([7], [7]), ([], []), ([9], [9]), ([10], [10]), ([2, 3, 5, 8, 11], [2, 3, 5, 8, 11]), ([], []), ([13, 12, 0, 1, 2, 3, 4, 5, 6, 7, 8, 9, 10, 11, 12, 13], [12, 13])])
def letterlockref11_Take.B6 : List Nat := [0, 1, 3, 0, 0, 16, 0, 64, 192, 0, 512, 1536, 4095, 0, 16383]
theorem letterlockref11_Take.tab6 : rtab .any (opsOf Tryz.f12 6) = letterlockref11_Take.T6 := by kernel_rfl
theorem letterlockref11_Take.bits6 : waitsOk letterlockref11_Take.T6.2 letterlockref11_Take.B6 = true := by kernel_rfl
set_option maxHeartbeats 8000000 in
set_option maxRecDepth 100000 in
theorem letterlockref11_Take.calls (k : Nat) (a0 : ByteArray) (r1 : ByteArray) (r2 : Int) (r3 : Int) (r4 : ByteArray) (r5 : ByteArray) (r6 : Int) (w : World) (h : letterlockref11_Take.f k a0 = some (r1, r2, r3, r4, r5, r6)) :
  Calls Tryz.prog 12 #[.string a0] w fun e w' => e = .returned (.tuple #[.agg #[.string r1, .int .u64 r2, .int .i64 r3, .string r4, .string r5], .int .i64 r6]) ∧ Below w.heap.size w w' := by
 have hu28 := Tryz.underlying28
 have HB := Aside0.mk (Below.refl w.heap.size w)
 unfold letterlockref11_Take.f at h
 have H := h
 clear h
 replace H := Option.bind_eq_some_iff.mp H
 obtain ⟨⟨t426, t427⟩, A20, H⟩ := H
 try dsimp only at H
 have A2 := Aside0.mk A20
 clear A20
 have HC3 := Aside0.mk H
 clear H
 go_enter Tryz.func12, Tryz.ntmps12
 go_upto_region 2 with (first | ((with_reducible refine gate_dst (N := 2) rfl ?_); (try (refine gate_guard (by rfl) ?_; dsimp only)); refine box_event ?hg (N := 2) ?hd (cs := #[.string (⟨#[]⟩ : ByteArray), .int .u64 0, .int .i64 0, .string (⟨#[]⟩ : ByteArray), .string (⟨#[]⟩ : ByteArray)]) (t := 28) ?hr ?_; (case hd => rfl); (case hg => rfl); (case hr => first | (go_simp; done) | (go_simp; rfl)); intro gb425 hg w4 hbox hb; have n0_ := Aside0.mk (below_step bl_ hb); have n1_ := Aside0.mk (hbox); have n2_ := Aside0.mk ((by rw [hg]; exact (below_size bl_) : w.heap.size ≤ gb425)); have n3_ := Aside0.mk ((by rw [hg]; exact (below_size bl_) : w.heap.size ≤ gb425)); clear HB; have HB := n0_; have BK425 := n1_; have GW425 := n2_; have GE425 := n3_; clear n0_ n1_ n2_ n3_; clear hb hbox hg) | ((with_reducible refine gate_callee (f := 39) rfl ?_); refine gL (some 14) Tryz.func39 #[.string a0, .int .i64 5, .int .i64 4000] rfl ?_; (with_reducible refine (letterlockref2_TakeAll.calls k a0 5 4000 t426 t427 _ A2.out).mono ?_); rintro e w5 ⟨v428, rfl, ho0, hb⟩; refine ⟨_, rfl, ?_⟩; have n0_ := Aside0.mk (Kd.R_lower ho0 (below_size bl_)); have n1_ := Aside0.mk (blk_below (g := gb425) (o := .cells #[.string (⟨#[]⟩ : ByteArray), .int .u64 0, .int .i64 0, .string (⟨#[]⟩ : ByteArray), .string (⟨#[]⟩ : ByteArray)] 28 (0, 0)) kl_ hb); have n2_ := Aside0.mk (below_step bl_ hb); clear BK425; clear HB; have HO429 := n0_; have BK425 := n1_; have HB := n2_; clear n0_ n1_ n2_; (try clear hb); (try clear ho0)))
 (try simp only [Act.put, List.setIfInBounds_toArray, List.set_cons_zero, List.set_cons_succ])
 go_cut [23] (fun v23 wc => ∃ (kq : Nat) (x23_2 : Bool), v23 = .bool x23_2 ∧ Aside0 (letterlockref11_Take.j0 kq t426 x23_2 = some (r1, r2, r3, r4, r5, r6)) ∧ Aside0 (kq ≤ k) ∧ Aside0 (Kd.R Kd.string 9 wc w.heap.size (fun _ => True) v428 t426) ∧ Aside0 (wc.heap[gb425]? = some (.cells #[.string (⟨#[]⟩ : ByteArray), .int .u64 0, .int .i64 0, .string (⟨#[]⟩ : ByteArray), .string (⟨#[]⟩ : ByteArray)] 28 (0, 0))) ∧ Aside0 (Below w.heap.size w wc))
 case first =>
  have H := HC3.out
  clear HC3
  by_cases c6 : t427 = 0
  ·rw [if_pos c6] at H
   have c6b0 : (t427 == 0) = true := beq_iff_eq.mpr c6
   have c6b1 : (t427 != 0) = false := bne_eq_false_iff_eq.mpr c6
   clear c6
   (first | rw [c6b0] | (simp only [i64_w, i32_w]; rw [c6b0]) | rw [c6b1] | skip)
   have H' := Aside0.mk H
   clear H
   obtain ⟨Ao7, co7, eo7⟩ := Kd.R_slice HO429.out
   subst eo7
   go_wp2
   go_meet
   case rel => exact ⟨_, (((t426.length : Int) != 5)), es_, H', ⟨by first | omega | exact Nat.le_refl _⟩, ⟨by (with_reducible repeat (first | apply Kd.R_alloc | apply Kd.R_drewN | apply Kd.R_drew)); exact HO429.out⟩, ⟨kl_⟩, ⟨bl_⟩⟩
  ·rw [if_neg c6] at H
   have c6b0 : (t427 == 0) = false := beq_eq_false_iff_ne.mpr c6
   have c6b1 : (t427 != 0) = true := bne_iff_ne.mpr c6
   (first | rw [c6b0] | (simp only [i64_w, i32_w]; rw [c6b0]) | rw [c6b1] | skip)
   have H' := Aside0.mk H
   clear H
   go_wp2
   go_meet
   case rel => exact ⟨_, (true), es_, H', ⟨by first | omega | exact Nat.le_refl _⟩, ⟨by (with_reducible repeat (first | apply Kd.R_alloc | apply Kd.R_drewN | apply Kd.R_drew)); exact HO429.out⟩, ⟨kl_⟩, ⟨bl_⟩⟩
 case rest =>
  clear HC3
  try clear c1
  try clear p2
  try clear c3
  try clear c6
  try clear c6b0
  try clear c6b1
  obtain ⟨kq, x23_2, rfl, HA, HJ2, HO_4, BK425, HB⟩ := hcut
  cases kq with
  | zero => exact absurd HA.out (by simp [letterlockref11_Take.j0])
  | succ kj2 =>
   have H := HA.out
   clear HA
   simp only [letterlockref11_Take.j0] at H
   by_cases c8 : x23_2 = true
   ·subst c8
    rw [if_pos rfl] at H
    simp only [Option.some.injEq, Prod.mk.injEq] at H
    obtain ⟨rfl, rfl, rfl, rfl, rfl, rfl⟩ := H
    have hcz9_0 : wc.cell? ⟨gb425, 0, none⟩ = some (.string (⟨#[]⟩ : ByteArray)) := (blk_cell BK425.out 0).trans rfl
    have hcz9_1 : wc.cell? ⟨gb425, 1, none⟩ = some (.int .u64 0) := (blk_cell BK425.out 1).trans rfl
    have hcz9_2 : wc.cell? ⟨gb425, 2, none⟩ = some (.int .i64 0) := (blk_cell BK425.out 2).trans rfl
    have hcz9_3 : wc.cell? ⟨gb425, 3, none⟩ = some (.string (⟨#[]⟩ : ByteArray)) := (blk_cell BK425.out 3).trans rfl
    have hcz9_4 : wc.cell? ⟨gb425, 4, none⟩ = some (.string (⟨#[]⟩ : ByteArray)) := (blk_cell BK425.out 4).trans rfl
    have hfz9_0 := blk_frozen BK425.out 0
    have hfz9_1 := blk_frozen BK425.out 1
    have hfz9_2 := blk_frozen BK425.out 2
    have hfz9_3 := blk_frozen BK425.out 3
    have hfz9_4 := blk_frozen BK425.out 4
    go_wp2
    refine bodyPost_ret (results_ct rfl _ _ gb425 28 #[.string (⟨#[]⟩ : ByteArray), .int .u64 0, .int .i64 0, .string (⟨#[]⟩ : ByteArray), .string (⟨#[]⟩ : ByteArray)] (0, 0) _ rfl (by (with_reducible repeat (first | refine blk_drewN ?_ _ | refine blk_drew ?_ | refine blk_alloc ?_ _)); refine blk_put (cs := #[.string (⟨#[]⟩ : ByteArray), .int .u64 0, .int .i64 0, .string (⟨#[]⟩ : ByteArray), .string (⟨#[]⟩ : ByteArray)]) ?_ 4 _ rfl; (with_reducible repeat (first | refine blk_drewN ?_ _ | refine blk_drew ?_ | refine blk_alloc ?_ _)); refine blk_put (cs := #[.string (⟨#[]⟩ : ByteArray), .int .u64 0, .int .i64 0, .string (⟨#[]⟩ : ByteArray), .string (⟨#[]⟩ : ByteArray)]) ?_ 3 _ rfl; (with_reducible repeat (first | refine blk_drewN ?_ _ | refine blk_drew ?_ | refine blk_alloc ?_ _)); refine blk_put (cs := #[.string (⟨#[]⟩ : ByteArray), .int .u64 0, .int .i64 0, .string (⟨#[]⟩ : ByteArray), .string (⟨#[]⟩ : ByteArray)]) ?_ 2 _ rfl; (with_reducible repeat (first | refine blk_drewN ?_ _ | refine blk_drew ?_ | refine blk_alloc ?_ _)); refine blk_put (cs := #[.string (⟨#[]⟩ : ByteArray), .int .u64 0, .int .i64 0, .string (⟨#[]⟩ : ByteArray), .string (⟨#[]⟩ : ByteArray)]) ?_ 1 _ rfl; (with_reducible repeat (first | refine blk_drewN ?_ _ | refine blk_drew ?_ | refine blk_alloc ?_ _)); refine blk_put (cs := #[.string (⟨#[]⟩ : ByteArray), .int .u64 0, .int .i64 0, .string (⟨#[]⟩ : ByteArray), .string (⟨#[]⟩ : ByteArray)]) ?_ 0 _ rfl; (with_reducible repeat (first | refine blk_drewN ?_ _ | refine blk_drew ?_ | refine blk_alloc ?_ _)); exact BK425.out) Tryz.underlying28 rfl (by kernel_rfl)) rfl ?_
    exact ⟨eq_, bl_⟩
   ·replace c8 := Bool.eq_false_iff.mpr c8
    subst c8
    rw [if_neg (show ¬ (false = true) by decide)] at H
    by_cases c10 : 1 < (t426.length : Int)
    ·rw [if_pos c10] at H
     have c10b0 : decide (1 < (t426.length : Int)) = true := decide_eq_true c10
     have c10b1 : decide (1 < t426.length) = true := decide_eq_true (by omega)
     clear c10
     replace H := Option.bind_eq_some_iff.mp H
     obtain ⟨⟨t431, t432, t433⟩, A110, H⟩ := H
     try dsimp only at H
     have A11 := Aside0.mk A110
     clear A110
     by_cases c12 : 2 < (t426.length : Int)
     ·rw [if_pos c12] at H
      have c12b0 : decide (2 < (t426.length : Int)) = true := decide_eq_true c12
      have c12b1 : decide (2 < t426.length) = true := decide_eq_true (by omega)
      clear c12
      replace H := Option.bind_eq_some_iff.mp H
      obtain ⟨⟨t435, t436, t437⟩, A130, H⟩ := H
      try dsimp only at H
      have A13 := Aside0.mk A130
      clear A130
      by_cases c14 : 0 < (t426.length : Int)
      ·rw [if_pos c14] at H
       have c14b0 : decide (0 < (t426.length : Int)) = true := decide_eq_true c14
       have c14b1 : decide (0 < t426.length) = true := decide_eq_true (by omega)
       clear c14
       by_cases c15 : 3 < (t426.length : Int)
       ·rw [if_pos c15] at H
        have c15b0 : decide (3 < (t426.length : Int)) = true := decide_eq_true c15
        have c15b1 : decide (3 < t426.length) = true := decide_eq_true (by omega)
        clear c15
        by_cases c16 : 4 < (t426.length : Int)
        ·rw [if_pos c16] at H
         have c16b0 : decide (4 < (t426.length : Int)) = true := decide_eq_true c16
         have c16b1 : decide (4 < t426.length) = true := decide_eq_true (by omega)
         clear c16
         have HC17 := Aside0.mk H
         clear H
         obtain ⟨Ao18, co18, eo18⟩ := Kd.R_slice HO_4.out
         subst eo18
         have p430 : 0 ≤ (1 : Int) := (by omega)
         have q430 : 1 < (t426.length : Int) := of_decide_eq_true (by first | (with_reducible assumption) | assumption)
         obtain ⟨ad430, e430, hx430_0⟩ := Kd.at_string (Kd.R_reads' HO_4.out).2.2 1 p430 q430
         cases e430
         (try simp only [show (1 : Int).toNat = 1 from rfl, Nat.reduceMul, Nat.reduceEqDiff, Go.Addr.add, ↓reduceIte] at hx430_0)
         have qi430 : (1 < t426.length) = True := eq_true (by omega)
         (try rw [show ((1 : Int)).toNat = 1 from rfl] at hx430_0)
         replace p430 := eq_true p430
         replace q430 := eq_true q430
         try go_wp2_with (first | ((with_reducible refine gate_callee (f := 40) rfl ?_); refine gL (some 29) Tryz.func40 #[.string (rdOf ByteArray.empty t426 1)] rfl ?_; (with_reducible refine (letterlockref2_Take.calls kj2 (rdOf ByteArray.empty t426 1) t431 t432 t433 _ A11.out).mono ?_); rintro e w' ⟨rfl, ⟨nd, rfl⟩⟩; refine ⟨_, rfl, ?_⟩; (try (rw [drewN_self wc]; generalize hq_ : World.drewN wc _ = wc; have n0_ : Aside0 (Kd.R Kd.string 9 wc w.heap.size (fun _ => True) (.slice (some ad430) t426.length co18) t426) := ⟨by rw [← hq_]; exact (by (with_reducible repeat (first | apply Kd.R_alloc | apply Kd.R_drewN | apply Kd.R_drew)); exact HO_4.out)⟩; have n1_ : Aside0 (wc.heap[gb425]? = some (.cells #[.string (⟨#[]⟩ : ByteArray), .int .u64 0, .int .i64 0, .string (⟨#[]⟩ : ByteArray), .string (⟨#[]⟩ : ByteArray)] 28 (0, 0))) := ⟨by rw [← hq_]; exact kl_⟩; have n2_ : Aside0 (Below w.heap.size w wc) := ⟨by rw [← hq_]; exact bl_⟩; clear HO_4 BK425 HB hq_; have HO_4 := n0_; have BK425 := n1_; have HB := n2_; clear n0_ n1_ n2_)); have p434 : 0 ≤ (2 : Int) := (by omega); have q434 : 2 < (t426.length : Int) := of_decide_eq_true (by first | (with_reducible assumption) | assumption); obtain ⟨ad434, e434, hx434_0⟩ := Kd.at_string (Kd.R_reads' HO_4.out).2.2 2 p434 q434; obtain rfl : ad430 = ad434 := (by injection e434); (try simp only [show (2 : Int).toNat = 2 from rfl, Nat.reduceMul, Nat.reduceEqDiff, Go.Addr.add, ↓reduceIte] at hx434_0); have qi434 : (2 < t426.length) = True := eq_true (by omega); (try rw [show ((2 : Int)).toNat = 2 from rfl] at hx434_0); replace p434 := eq_true p434; replace q434 := eq_true q434) | ((with_reducible refine gate_callee (f := 40) rfl ?_); refine gL (some 37) Tryz.func40 #[.string (rdOf ByteArray.empty t426 2)] rfl ?_; (with_reducible refine (letterlockref2_Take.calls kj2 (rdOf ByteArray.empty t426 2) t435 t436 t437 _ A13.out).mono ?_); rintro e w' ⟨rfl, ⟨nd, rfl⟩⟩; refine ⟨_, rfl, ?_⟩; (try (rw [drewN_self wc]; generalize hq_ : World.drewN wc _ = wc; have n0_ : Aside0 (Kd.R Kd.string 9 wc w.heap.size (fun _ => True) (.slice (some ad430) t426.length co18) t426) := ⟨by rw [← hq_]; exact (by (with_reducible repeat (first | apply Kd.R_alloc | apply Kd.R_drewN | apply Kd.R_drew)); exact HO_4.out)⟩; have n1_ : Aside0 (wc.heap[gb425]? = some (.cells #[.string (⟨#[]⟩ : ByteArray), .int .u64 0, .int .i64 0, .string (⟨#[]⟩ : ByteArray), .string (⟨#[]⟩ : ByteArray)] 28 (0, 0))) := ⟨by rw [← hq_]; exact kl_⟩; have n2_ : Aside0 (Below w.heap.size w wc) := ⟨by rw [← hq_]; exact bl_⟩; clear HO_4 BK425 HB hq_; have HO_4 := n0_; have BK425 := n1_; have HB := n2_; clear n0_ n1_ n2_))))
         have n0_ := Aside0.mk (Kd.R_drew HO_4.out)
         have n1_ := Aside0.mk (blk_drew BK425.out)
         have n2_ := Aside0.mk (below_drew1 HB.out)
         clear HO_4
         clear BK425
         clear HB
         have HO_4 := n0_
         have BK425 := n1_
         have HB := n2_
         clear n0_ n1_ n2_
         have p438 : 0 ≤ (0 : Int) := (by omega)
         have q438 : 0 < (t426.length : Int) := of_decide_eq_true (by first | (with_reducible assumption) | assumption)
         obtain ⟨ad438, e438, hx438_0⟩ := Kd.at_string (Kd.R_reads' HO_4.out).2.2 0 p438 q438
         obtain rfl : ad430 = ad438 := (by injection e438)
         have qi438 : (0 < t426.length) = True := eq_true (by omega)
         (try rw [show ((0 : Int)).toNat = 0 from rfl] at hx438_0)
         (try rw [Addr.add_zero'] at hx438_0)
         replace p438 := eq_true p438
         replace q438 := eq_true q438
         have p439 : 0 ≤ (3 : Int) := (by omega)
         have q439 : 3 < (t426.length : Int) := of_decide_eq_true (by first | (with_reducible assumption) | assumption)
         obtain ⟨ad439, e439, hx439_0⟩ := Kd.at_string (Kd.R_reads' HO_4.out).2.2 3 p439 q439
         obtain rfl : ad430 = ad439 := (by injection e439)
         (try simp only [show (3 : Int).toNat = 3 from rfl, Nat.reduceMul, Nat.reduceEqDiff, Go.Addr.add, ↓reduceIte] at hx439_0)
         have qi439 : (3 < t426.length) = True := eq_true (by omega)
         (try rw [show ((3 : Int)).toNat = 3 from rfl] at hx439_0)
         replace p439 := eq_true p439
         replace q439 := eq_true q439
         have p440 : 0 ≤ (4 : Int) := (by omega)
         have q440 : 4 < (t426.length : Int) := of_decide_eq_true (by first | (with_reducible assumption) | assumption)
         obtain ⟨ad440, e440, hx440_0⟩ := Kd.at_string (Kd.R_reads' HO_4.out).2.2 4 p440 q440
         obtain rfl : ad430 = ad440 := (by injection e440)
         (try simp only [show (4 : Int).toNat = 4 from rfl, Nat.reduceMul, Nat.reduceEqDiff, Go.Addr.add, ↓reduceIte] at hx440_0)
         have qi440 : (4 < t426.length) = True := eq_true (by omega)
         (try rw [show ((4 : Int)).toNat = 4 from rfl] at hx440_0)
         replace p440 := eq_true p440
         replace q440 := eq_true q440
         refine start_ (n := 15) (S := fun w' => w'.cell? ad430 = some (.string (rdOf ByteArray.empty t426 0)) ∧ w'.cell? ⟨ad430.block, ad430.off + 3, none⟩ = some (.string (rdOf ByteArray.empty t426 3)) ∧ w'.cell? ⟨ad430.block, ad430.off + 4, none⟩ = some (.string (rdOf ByteArray.empty t426 4))) (ds := []) #[false, false, false, false, false, false, false, false, false, false, false, false, false, false, false] (by kernel_rfl) rfl rfl ⟨hx438_0, hx439_0, hx440_0⟩ (fun hHeld => ?_); refine with_tabW letterlockref11_Take.tab6 letterlockref11_Take.bits6 (fun HT_ HW_ => ?_)
         generalize wc.drew = w19 at HO_4 BK425 HB hx438_0 hx439_0 hx440_0 hHeld ⊢
         refine pS (i := 0) (N := some 41) (bn 15 1) rfl HT_.out ?_
         refine pS (i := 1) (N := some 42) (bn 15 3) rfl HT_.out ?_
         refine pS (i := 3) (N := some 44) (bn 15 11) rfl HT_.out ?_
         refine pS (i := 4) (N := some 45) (bn 15 27) rfl HT_.out ?_
         refine pS (i := 5) (N := some 46) (bn 15 59) rfl HT_.out ?_
         refine pS (i := 6) (N := some 47) (bn 15 123) rfl HT_.out ?_
         refine pS (i := 7) (N := some 48) (bn 15 251) rfl HT_.out ?_
         refine pS (i := 9) (N := some 50) (bn 15 763) rfl HT_.out ?_
         refine pS (i := 10) (N := some 51) (bn 15 1787) rfl HT_.out ?_
         refine tS (i := 2) (N := some 43) (bn 15 1791) rfl HT_.out HW_.out hHeld (fun w' ⟨s0, s1, s2⟩ => by go_simp; with_reducible rfl) ?_
         refine tS (i := 8) (N := some 49) (bn 15 2047) rfl HT_.out HW_.out hHeld (fun w' ⟨s0, s1, s2⟩ => by go_simp; with_reducible rfl) ?_
         refine tS (i := 11) (N := some 52) (bn 15 4095) rfl HT_.out HW_.out hHeld (fun w' ⟨s0, s1, s2⟩ => by go_simp; with_reducible rfl) ?_
         refine pS (i := 12) (N := some 53) (bn 15 8191) rfl HT_.out ?_
         refine oS (i := 13) (N := some 11) (bn 15 16383) rfl HT_.out (fun K hK => ?_)
         refine box_step ?hg (N := 11) ?hd (cs := #[.string (⟨#[]⟩ : ByteArray), .int .u64 0, .int .i64 0, .string (⟨#[]⟩ : ByteArray), .string (⟨#[]⟩ : ByteArray)]) (t := 28) ?hr ?_; (case hd => rfl); (case hg => rfl); (case hr => first | (go_simp; done) | (go_simp; rfl))
         intro gb441 hg w20 hbox hb
         have HS0_ := (hb.cell (World.block_lt_of_cell? _ _ (hHeld.1))).trans (hHeld.1)
         have HS1_ := (hb.cell (World.block_lt_of_cell? _ _ (hHeld.2.1))).trans (hHeld.2.1)
         have HS2_ := (hb.cell (World.block_lt_of_cell? _ _ (hHeld.2.2))).trans (hHeld.2.2)
         have n0_ := Aside0.mk (Kd.R_below (by (with_reducible repeat (first | apply Kd.R_alloc | apply Kd.R_drewN | apply Kd.R_drew)); exact HO_4.out) hb)
         have n1_ := Aside0.mk (blk_below (g := gb425) (o := .cells #[.string (⟨#[]⟩ : ByteArray), .int .u64 0, .int .i64 0, .string (⟨#[]⟩ : ByteArray), .string (⟨#[]⟩ : ByteArray)] 28 (0, 0)) kl_ hb)
         have n2_ := Aside0.mk (below_step bl_ hb)
         have n3_ := Aside0.mk (hbox)
         have n4_ := Aside0.mk ((by rw [hg]; exact (below_size bl_) : w.heap.size ≤ gb441))
         have n5_ := Aside0.mk ((by rw [hg]; exact (below_size bl_) : w.heap.size ≤ gb441))
         have n6_ := Aside0.mk ((by rw [hg]; exact Nat.ne_of_lt (blk_lt (g := gb425) (o := .cells #[.string (⟨#[]⟩ : ByteArray), .int .u64 0, .int .i64 0, .string (⟨#[]⟩ : ByteArray), .string (⟨#[]⟩ : ByteArray)] 28 (0, 0)) kl_) : gb425 ≠ gb441))
         have n7_ := Aside0.mk ((by rw [hg]; exact Nat.ne_of_gt (blk_lt (g := gb425) (o := .cells #[.string (⟨#[]⟩ : ByteArray), .int .u64 0, .int .i64 0, .string (⟨#[]⟩ : ByteArray), .string (⟨#[]⟩ : ByteArray)] 28 (0, 0)) kl_) : gb441 ≠ gb425))
         clear HO_4
         clear BK425
         clear HB
         have HO_4 := n0_
         have BK425 := n1_
         have HB := n2_
         have BK441 := n3_
         have GW441 := n4_
         have GE441 := n5_
         have NB425_441 := n6_
         have NB441_425 := n7_
         clear n0_ n1_ n2_ n3_ n4_ n5_ n6_ n7_
         clear hb hbox hg
         refine hK.out _ _ ⟨HS0_, HS1_, HS2_⟩ (fun hHeld => ?_)
         clear hK K
         refine nS (some 11) ?_
         refine oS (i := 14) (N := none) (bn 15 32767) rfl HT_.out (fun K hK => ?_)
         have hs21 : w20.cell? ⟨gb441, 0, none⟩ = some (.string (⟨#[]⟩ : ByteArray)) := (blk_cell BK441.out 0).trans rfl
         have hfs21 := blk_frozen BK441.out 0
         have hns21_0 := NB425_441.out
         have hms21_0 := NB441_425.out
         have hs22 : w20.cell? ⟨gb441, 1, none⟩ = some (.int .u64 0) := (blk_cell BK441.out 1).trans rfl
         have hfs22 := blk_frozen BK441.out 1
         have hns22_0 := NB425_441.out
         have hms22_0 := NB441_425.out
         have hs23 : w20.cell? ⟨gb441, 2, none⟩ = some (.int .i64 0) := (blk_cell BK441.out 2).trans rfl
         have hfs23 := blk_frozen BK441.out 2
         have hns23_0 := NB425_441.out
         have hms23_0 := NB441_425.out
         have hs24 : w20.cell? ⟨gb441, 3, none⟩ = some (.string (⟨#[]⟩ : ByteArray)) := (blk_cell BK441.out 3).trans rfl
         have hfs24 := blk_frozen BK441.out 3
         have hns24_0 := NB425_441.out
         have hms24_0 := NB441_425.out
         have hs25 : w20.cell? ⟨gb441, 4, none⟩ = some (.string (⟨#[]⟩ : ByteArray)) := (blk_cell BK441.out 4).trans rfl
         have hfs25 := blk_frozen BK441.out 4
         have hns25_0 := NB425_441.out
         have hms25_0 := NB441_425.out
         refine skip_ (w1 := ?_) (by rfl) rfl ?_ ?_
         rotate_left
         ·go_simp
          rfl
         refine hK.out _ _ ⟨((cell_far (p := ⟨gb441, _, none⟩) (by first | exact Kd.own_blk (Kd.R_ne HO_4.out BK441.out (by decide)) | (rw [add_block]; exact Kd.own_blk (Kd.R_ne HO_4.out BK441.out (by decide))) | (show (Addr.add _ _).block ≠ _; rw [add_block]; exact Kd.own_blk (Kd.R_ne HO_4.out BK441.out (by decide))) | (dsimp only; exact Kd.own_blk (Kd.R_ne HO_4.out BK441.out (by decide)))) _).trans (((cell_far (p := ⟨gb441, _, none⟩) (by first | exact Kd.own_blk (Kd.R_ne HO_4.out BK441.out (by decide)) | (rw [add_block]; exact Kd.own_blk (Kd.R_ne HO_4.out BK441.out (by decide))) | (show (Addr.add _ _).block ≠ _; rw [add_block]; exact Kd.own_blk (Kd.R_ne HO_4.out BK441.out (by decide))) | (dsimp only; exact Kd.own_blk (Kd.R_ne HO_4.out BK441.out (by decide)))) _).trans (((cell_far (p := ⟨gb441, _, none⟩) (by first | exact Kd.own_blk (Kd.R_ne HO_4.out BK441.out (by decide)) | (rw [add_block]; exact Kd.own_blk (Kd.R_ne HO_4.out BK441.out (by decide))) | (show (Addr.add _ _).block ≠ _; rw [add_block]; exact Kd.own_blk (Kd.R_ne HO_4.out BK441.out (by decide))) | (dsimp only; exact Kd.own_blk (Kd.R_ne HO_4.out BK441.out (by decide)))) _).trans (((cell_far (p := ⟨gb441, _, none⟩) (by first | exact Kd.own_blk (Kd.R_ne HO_4.out BK441.out (by decide)) | (rw [add_block]; exact Kd.own_blk (Kd.R_ne HO_4.out BK441.out (by decide))) | (show (Addr.add _ _).block ≠ _; rw [add_block]; exact Kd.own_blk (Kd.R_ne HO_4.out BK441.out (by decide))) | (dsimp only; exact Kd.own_blk (Kd.R_ne HO_4.out BK441.out (by decide)))) _).trans (((cell_far (p := ⟨gb441, _, none⟩) (by first | exact Kd.own_blk (Kd.R_ne HO_4.out BK441.out (by decide)) | (rw [add_block]; exact Kd.own_blk (Kd.R_ne HO_4.out BK441.out (by decide))) | (show (Addr.add _ _).block ≠ _; rw [add_block]; exact Kd.own_blk (Kd.R_ne HO_4.out BK441.out (by decide))) | (dsimp only; exact Kd.own_blk (Kd.R_ne HO_4.out BK441.out (by decide)))) _).trans (hHeld.1)))))))))), ((cell_far (p := ⟨gb441, _, none⟩) (by first | exact Kd.own_blk (Kd.R_ne HO_4.out BK441.out (by decide)) | (rw [add_block]; exact Kd.own_blk (Kd.R_ne HO_4.out BK441.out (by decide))) | (show (Addr.add _ _).block ≠ _; rw [add_block]; exact Kd.own_blk (Kd.R_ne HO_4.out BK441.out (by decide))) | (dsimp only; exact Kd.own_blk (Kd.R_ne HO_4.out BK441.out (by decide)))) _).trans (((cell_far (p := ⟨gb441, _, none⟩) (by first | exact Kd.own_blk (Kd.R_ne HO_4.out BK441.out (by decide)) | (rw [add_block]; exact Kd.own_blk (Kd.R_ne HO_4.out BK441.out (by decide))) | (show (Addr.add _ _).block ≠ _; rw [add_block]; exact Kd.own_blk (Kd.R_ne HO_4.out BK441.out (by decide))) | (dsimp only; exact Kd.own_blk (Kd.R_ne HO_4.out BK441.out (by decide)))) _).trans (((cell_far (p := ⟨gb441, _, none⟩) (by first | exact Kd.own_blk (Kd.R_ne HO_4.out BK441.out (by decide)) | (rw [add_block]; exact Kd.own_blk (Kd.R_ne HO_4.out BK441.out (by decide))) | (show (Addr.add _ _).block ≠ _; rw [add_block]; exact Kd.own_blk (Kd.R_ne HO_4.out BK441.out (by decide))) | (dsimp only; exact Kd.own_blk (Kd.R_ne HO_4.out BK441.out (by decide)))) _).trans (((cell_far (p := ⟨gb441, _, none⟩) (by first | exact Kd.own_blk (Kd.R_ne HO_4.out BK441.out (by decide)) | (rw [add_block]; exact Kd.own_blk (Kd.R_ne HO_4.out BK441.out (by decide))) | (show (Addr.add _ _).block ≠ _; rw [add_block]; exact Kd.own_blk (Kd.R_ne HO_4.out BK441.out (by decide))) | (dsimp only; exact Kd.own_blk (Kd.R_ne HO_4.out BK441.out (by decide)))) _).trans (((cell_far (p := ⟨gb441, _, none⟩) (by first | exact Kd.own_blk (Kd.R_ne HO_4.out BK441.out (by decide)) | (rw [add_block]; exact Kd.own_blk (Kd.R_ne HO_4.out BK441.out (by decide))) | (show (Addr.add _ _).block ≠ _; rw [add_block]; exact Kd.own_blk (Kd.R_ne HO_4.out BK441.out (by decide))) | (dsimp only; exact Kd.own_blk (Kd.R_ne HO_4.out BK441.out (by decide)))) _).trans (hHeld.2.1)))))))))), ((cell_far (p := ⟨gb441, _, none⟩) (by first | exact Kd.own_blk (Kd.R_ne HO_4.out BK441.out (by decide)) | (rw [add_block]; exact Kd.own_blk (Kd.R_ne HO_4.out BK441.out (by decide))) | (show (Addr.add _ _).block ≠ _; rw [add_block]; exact Kd.own_blk (Kd.R_ne HO_4.out BK441.out (by decide))) | (dsimp only; exact Kd.own_blk (Kd.R_ne HO_4.out BK441.out (by decide)))) _).trans (((cell_far (p := ⟨gb441, _, none⟩) (by first | exact Kd.own_blk (Kd.R_ne HO_4.out BK441.out (by decide)) | (rw [add_block]; exact Kd.own_blk (Kd.R_ne HO_4.out BK441.out (by decide))) | (show (Addr.add _ _).block ≠ _; rw [add_block]; exact Kd.own_blk (Kd.R_ne HO_4.out BK441.out (by decide))) | (dsimp only; exact Kd.own_blk (Kd.R_ne HO_4.out BK441.out (by decide)))) _).trans (((cell_far (p := ⟨gb441, _, none⟩) (by first | exact Kd.own_blk (Kd.R_ne HO_4.out BK441.out (by decide)) | (rw [add_block]; exact Kd.own_blk (Kd.R_ne HO_4.out BK441.out (by decide))) | (show (Addr.add _ _).block ≠ _; rw [add_block]; exact Kd.own_blk (Kd.R_ne HO_4.out BK441.out (by decide))) | (dsimp only; exact Kd.own_blk (Kd.R_ne HO_4.out BK441.out (by decide)))) _).trans (((cell_far (p := ⟨gb441, _, none⟩) (by first | exact Kd.own_blk (Kd.R_ne HO_4.out BK441.out (by decide)) | (rw [add_block]; exact Kd.own_blk (Kd.R_ne HO_4.out BK441.out (by decide))) | (show (Addr.add _ _).block ≠ _; rw [add_block]; exact Kd.own_blk (Kd.R_ne HO_4.out BK441.out (by decide))) | (dsimp only; exact Kd.own_blk (Kd.R_ne HO_4.out BK441.out (by decide)))) _).trans (((cell_far (p := ⟨gb441, _, none⟩) (by first | exact Kd.own_blk (Kd.R_ne HO_4.out BK441.out (by decide)) | (rw [add_block]; exact Kd.own_blk (Kd.R_ne HO_4.out BK441.out (by decide))) | (show (Addr.add _ _).block ≠ _; rw [add_block]; exact Kd.own_blk (Kd.R_ne HO_4.out BK441.out (by decide))) | (dsimp only; exact Kd.own_blk (Kd.R_ne HO_4.out BK441.out (by decide)))) _).trans (hHeld.2.2))))))))))⟩ (fun hHeld => ?_)
         clear hK K
         refine done_ (done_of HT_.out (by kernel_rfl)) ?_
         go_upto_region 7 with (fail)
         go_cut [76] (fun v76 wc => ∃ (kq : Nat) (x76_16 : Bool), v76 = .bool x76_16 ∧ Aside0 (letterlockref11_Take.j1 kq x76_16 (rdOf ByteArray.empty t426 0) t431 (wrap64 (t435)) (rdOf ByteArray.empty t426 3) (rdOf ByteArray.empty t426 4) = some (r1, r2, r3, r4, r5, r6)) ∧ Aside0 (kq ≤ kj2) ∧ Aside0 (wc.heap[gb425]? = some (.cells #[.string (⟨#[]⟩ : ByteArray), .int .u64 0, .int .i64 0, .string (⟨#[]⟩ : ByteArray), .string (⟨#[]⟩ : ByteArray)] 28 (0, 0))) ∧ Aside0 (wc.heap[gb441]? = some (.cells #[.string (rdOf ByteArray.empty t426 0), .int .u64 t431, .int .i64 (wrap64 (t435)), .string (rdOf ByteArray.empty t426 3), .string (rdOf ByteArray.empty t426 4)] 28 (0, 0))) ∧ Aside0 (Below w.heap.size w wc))
         case first =>
          have H := HC17.out
          clear HC17
          by_cases c26 : t433 = 0
          ·rw [if_pos c26] at H
           have c26b0 : (t433 == 0) = true := beq_iff_eq.mpr c26
           have c26b1 : (t433 != 0) = false := bne_eq_false_iff_eq.mpr c26
           clear c26
           (first | rw [c26b0] | (simp only [i64_w, i32_w]; rw [c26b0]) | rw [c26b1] | skip)
           by_cases c27 : t432.toList = ([] : List UInt8)
           ·rw [if_pos c27] at H
            have c27b0 : (t432.toList == ([] : List UInt8)) = true := beq_iff_eq.mpr c27
            have c27b1 : (t432.toList != ([] : List UInt8)) = false := bne_eq_false_iff_eq.mpr c27
            clear c27
            by_cases c28 : t437 = 0
            ·rw [if_pos c28] at H
             have c28b0 : (t437 == 0) = true := beq_iff_eq.mpr c28
             have c28b1 : (t437 != 0) = false := bne_eq_false_iff_eq.mpr c28
             clear c28
             by_cases c29 : t436.toList = ([] : List UInt8)
             ·rw [if_pos c29] at H
              have c29b0 : (t436.toList == ([] : List UInt8)) = true := beq_iff_eq.mpr c29
              have c29b1 : (t436.toList != ([] : List UInt8)) = false := bne_eq_false_iff_eq.mpr c29
              clear c29
              by_cases c30 : t435 > 8
              ·rw [if_pos c30] at H
               have c30b0 : decide (8 < t435) = true := decide_eq_true c30
               clear c30
               have H' := Aside0.mk H
               clear H
               go_wp2
               go_meet
               case rel => exact ⟨_, (true), es_, H', ⟨by have := HJ2.out; first | omega | exact Nat.le_refl _⟩, ⟨by (with_reducible repeat (first | refine blk_drewN ?_ _ | refine blk_drew ?_ | refine blk_alloc ?_ _)); refine blk_far ?_ NB425_441.out _; (with_reducible repeat (first | refine blk_drewN ?_ _ | refine blk_drew ?_ | refine blk_alloc ?_ _)); refine blk_far ?_ NB425_441.out _; (with_reducible repeat (first | refine blk_drewN ?_ _ | refine blk_drew ?_ | refine blk_alloc ?_ _)); refine blk_far ?_ NB425_441.out _; (with_reducible repeat (first | refine blk_drewN ?_ _ | refine blk_drew ?_ | refine blk_alloc ?_ _)); refine blk_far ?_ NB425_441.out _; (with_reducible repeat (first | refine blk_drewN ?_ _ | refine blk_drew ?_ | refine blk_alloc ?_ _)); refine blk_far ?_ NB425_441.out _; (with_reducible repeat (first | refine blk_drewN ?_ _ | refine blk_drew ?_ | refine blk_alloc ?_ _)); exact BK425.out⟩, ⟨by (with_reducible repeat (first | refine blk_drewN ?_ _ | refine blk_drew ?_ | refine blk_alloc ?_ _)); refine blk_put (cs := #[.string (rdOf ByteArray.empty t426 0), .int .u64 t431, .int .i64 (wrap64 (t435)), .string (rdOf ByteArray.empty t426 3), .string (⟨#[]⟩ : ByteArray)]) ?_ 4 _ rfl; (with_reducible repeat (first | refine blk_drewN ?_ _ | refine blk_drew ?_ | refine blk_alloc ?_ _)); refine blk_put (cs := #[.string (rdOf ByteArray.empty t426 0), .int .u64 t431, .int .i64 (wrap64 (t435)), .string (⟨#[]⟩ : ByteArray), .string (⟨#[]⟩ : ByteArray)]) ?_ 3 _ rfl; (with_reducible repeat (first | refine blk_drewN ?_ _ | refine blk_drew ?_ | refine blk_alloc ?_ _)); refine blk_put (cs := #[.string (rdOf ByteArray.empty t426 0), .int .u64 t431, .int .i64 0, .string (⟨#[]⟩ : ByteArray), .string (⟨#[]⟩ : ByteArray)]) ?_ 2 _ rfl; (with_reducible repeat (first | refine blk_drewN ?_ _ | refine blk_drew ?_ | refine blk_alloc ?_ _)); refine blk_put (cs := #[.string (rdOf ByteArray.empty t426 0), .int .u64 0, .int .i64 0, .string (⟨#[]⟩ : ByteArray), .string (⟨#[]⟩ : ByteArray)]) ?_ 1 _ rfl; (with_reducible repeat (first | refine blk_drewN ?_ _ | refine blk_drew ?_ | refine blk_alloc ?_ _)); refine blk_put (cs := #[.string (⟨#[]⟩ : ByteArray), .int .u64 0, .int .i64 0, .string (⟨#[]⟩ : ByteArray), .string (⟨#[]⟩ : ByteArray)]) ?_ 0 _ rfl; (with_reducible repeat (first | refine blk_drewN ?_ _ | refine blk_drew ?_ | refine blk_alloc ?_ _)); exact BK441.out⟩, ⟨bl_⟩⟩
              ·rw [if_neg c30] at H
               have c30b0 : decide (8 < t435) = false := decide_eq_false c30
               clear c30
               replace H := Option.bind_eq_some_iff.mp H
               obtain ⟨t442, A310, H⟩ := H
               try dsimp only at H
               have A31 := Aside0.mk A310
               clear A310
               have H' := Aside0.mk H
               clear H
               have hnb32 := NB441_425.out
               have hnc32 := NB425_441.out
               have hcz33_0 : w20.cell? ⟨gb441, 0, none⟩ = some (.string (⟨#[]⟩ : ByteArray)) := (blk_cell BK441.out 0).trans rfl
               have hcz33_1 : w20.cell? ⟨gb441, 1, none⟩ = some (.int .u64 0) := (blk_cell BK441.out 1).trans rfl
               have hcz33_2 : w20.cell? ⟨gb441, 2, none⟩ = some (.int .i64 0) := (blk_cell BK441.out 2).trans rfl
               have hcz33_3 : w20.cell? ⟨gb441, 3, none⟩ = some (.string (⟨#[]⟩ : ByteArray)) := (blk_cell BK441.out 3).trans rfl
               have hcz33_4 : w20.cell? ⟨gb441, 4, none⟩ = some (.string (⟨#[]⟩ : ByteArray)) := (blk_cell BK441.out 4).trans rfl
               have hfz33_0 := blk_frozen BK441.out 0
               have hfz33_1 := blk_frozen BK441.out 1
               have hfz33_2 := blk_frozen BK441.out 2
               have hfz33_3 := blk_frozen BK441.out 3
               have hfz33_4 := blk_frozen BK441.out 4
               go_wp2_with (first | (go_at_call 14; (with_reducible refine (letterlockref11_Right.calls kj2 (rdOf ByteArray.empty t426 0) t431 (wrap64 (t435)) (rdOf ByteArray.empty t426 3) (rdOf ByteArray.empty t426 4) t442 _ A31.out).mono ?_); rintro e w34 ⟨rfl, hb⟩; have n0_ := Aside0.mk (Kd.R_below (by (with_reducible repeat (first | apply Kd.R_alloc | apply Kd.R_drewN | apply Kd.R_drew)); exact (Kd.R_mono (Kd.R_far (p := ⟨gb441, 4, none⟩) (Kd.R_far (p := ⟨gb441, 3, none⟩) (Kd.R_far (p := ⟨gb441, 2, none⟩) (Kd.R_far (p := ⟨gb441, 1, none⟩) (Kd.R_far (p := ⟨gb441, 0, none⟩) (Kd.R_types HO_4.out BK441.out (by decide)) (fun _ hk => hk.2) (.string (rdOf ByteArray.empty t426 0))) (fun _ hk => hk.2) (.int .u64 t431)) (fun _ hk => hk.2) (.int .i64 (wrap64 (t435)))) (fun _ hk => hk.2) (.string (rdOf ByteArray.empty t426 3))) (fun _ hk => hk.2) (.string (rdOf ByteArray.empty t426 4))) (fun _ h_ => h_.1))) hb); have n1_ := Aside0.mk (blk_below (g := gb425) (o := .cells #[.string (⟨#[]⟩ : ByteArray), .int .u64 0, .int .i64 0, .string (⟨#[]⟩ : ByteArray), .string (⟨#[]⟩ : ByteArray)] 28 (0, 0)) (by (with_reducible repeat (first | refine blk_drewN ?_ _ | refine blk_drew ?_ | refine blk_alloc ?_ _)); refine blk_far ?_ NB425_441.out _; (with_reducible repeat (first | refine blk_drewN ?_ _ | refine blk_drew ?_ | refine blk_alloc ?_ _)); refine blk_far ?_ NB425_441.out _; (with_reducible repeat (first | refine blk_drewN ?_ _ | refine blk_drew ?_ | refine blk_alloc ?_ _)); refine blk_far ?_ NB425_441.out _; (with_reducible repeat (first | refine blk_drewN ?_ _ | refine blk_drew ?_ | refine blk_alloc ?_ _)); refine blk_far ?_ NB425_441.out _; (with_reducible repeat (first | refine blk_drewN ?_ _ | refine blk_drew ?_ | refine blk_alloc ?_ _)); refine blk_far ?_ NB425_441.out _; (with_reducible repeat (first | refine blk_drewN ?_ _ | refine blk_drew ?_ | refine blk_alloc ?_ _)); exact BK425.out) hb); have n2_ := Aside0.mk (blk_below (g := gb441) (o := .cells #[.string (rdOf ByteArray.empty t426 0), .int .u64 t431, .int .i64 (wrap64 (t435)), .string (rdOf ByteArray.empty t426 3), .string (rdOf ByteArray.empty t426 4)] 28 (0, 0)) (by (with_reducible repeat (first | refine blk_drewN ?_ _ | refine blk_drew ?_ | refine blk_alloc ?_ _)); refine blk_put (cs := #[.string (rdOf ByteArray.empty t426 0), .int .u64 t431, .int .i64 (wrap64 (t435)), .string (rdOf ByteArray.empty t426 3), .string (⟨#[]⟩ : ByteArray)]) ?_ 4 _ rfl; (with_reducible repeat (first | refine blk_drewN ?_ _ | refine blk_drew ?_ | refine blk_alloc ?_ _)); refine blk_put (cs := #[.string (rdOf ByteArray.empty t426 0), .int .u64 t431, .int .i64 (wrap64 (t435)), .string (⟨#[]⟩ : ByteArray), .string (⟨#[]⟩ : ByteArray)]) ?_ 3 _ rfl; (with_reducible repeat (first | refine blk_drewN ?_ _ | refine blk_drew ?_ | refine blk_alloc ?_ _)); refine blk_put (cs := #[.string (rdOf ByteArray.empty t426 0), .int .u64 t431, .int .i64 0, .string (⟨#[]⟩ : ByteArray), .string (⟨#[]⟩ : ByteArray)]) ?_ 2 _ rfl; (with_reducible repeat (first | refine blk_drewN ?_ _ | refine blk_drew ?_ | refine blk_alloc ?_ _)); refine blk_put (cs := #[.string (rdOf ByteArray.empty t426 0), .int .u64 0, .int .i64 0, .string (⟨#[]⟩ : ByteArray), .string (⟨#[]⟩ : ByteArray)]) ?_ 1 _ rfl; (with_reducible repeat (first | refine blk_drewN ?_ _ | refine blk_drew ?_ | refine blk_alloc ?_ _)); refine blk_put (cs := #[.string (⟨#[]⟩ : ByteArray), .int .u64 0, .int .i64 0, .string (⟨#[]⟩ : ByteArray), .string (⟨#[]⟩ : ByteArray)]) ?_ 0 _ rfl; (with_reducible repeat (first | refine blk_drewN ?_ _ | refine blk_drew ?_ | refine blk_alloc ?_ _)); exact BK441.out) hb); have n3_ := Aside0.mk (below_step bl_ hb); clear HO_4; clear BK425; clear BK441; clear HB; have HO_4 := n0_; have BK425 := n1_; have BK441 := n2_; have HB := n3_; clear n0_ n1_ n2_ n3_; (try clear hb)))
               go_meet
               case rel => exact ⟨_, (!t442), es_, H', ⟨by have := HJ2.out; first | omega | exact Nat.le_refl _⟩, ⟨kl_⟩, ⟨kl_⟩, ⟨bl_⟩⟩
             ·rw [if_neg c29] at H
              have c29b0 : (t436.toList == ([] : List UInt8)) = false := beq_eq_false_iff_ne.mpr c29
              have c29b1 : (t436.toList != ([] : List UInt8)) = true := bne_iff_ne.mpr c29
              have H' := Aside0.mk H
              clear H
              go_wp2
              go_meet
              case rel => exact ⟨_, (true), es_, H', ⟨by have := HJ2.out; first | omega | exact Nat.le_refl _⟩, ⟨by (with_reducible repeat (first | refine blk_drewN ?_ _ | refine blk_drew ?_ | refine blk_alloc ?_ _)); refine blk_far ?_ NB425_441.out _; (with_reducible repeat (first | refine blk_drewN ?_ _ | refine blk_drew ?_ | refine blk_alloc ?_ _)); refine blk_far ?_ NB425_441.out _; (with_reducible repeat (first | refine blk_drewN ?_ _ | refine blk_drew ?_ | refine blk_alloc ?_ _)); refine blk_far ?_ NB425_441.out _; (with_reducible repeat (first | refine blk_drewN ?_ _ | refine blk_drew ?_ | refine blk_alloc ?_ _)); refine blk_far ?_ NB425_441.out _; (with_reducible repeat (first | refine blk_drewN ?_ _ | refine blk_drew ?_ | refine blk_alloc ?_ _)); refine blk_far ?_ NB425_441.out _; (with_reducible repeat (first | refine blk_drewN ?_ _ | refine blk_drew ?_ | refine blk_alloc ?_ _)); exact BK425.out⟩, ⟨by (with_reducible repeat (first | refine blk_drewN ?_ _ | refine blk_drew ?_ | refine blk_alloc ?_ _)); refine blk_put (cs := #[.string (rdOf ByteArray.empty t426 0), .int .u64 t431, .int .i64 (wrap64 (t435)), .string (rdOf ByteArray.empty t426 3), .string (⟨#[]⟩ : ByteArray)]) ?_ 4 _ rfl; (with_reducible repeat (first | refine blk_drewN ?_ _ | refine blk_drew ?_ | refine blk_alloc ?_ _)); refine blk_put (cs := #[.string (rdOf ByteArray.empty t426 0), .int .u64 t431, .int .i64 (wrap64 (t435)), .string (⟨#[]⟩ : ByteArray), .string (⟨#[]⟩ : ByteArray)]) ?_ 3 _ rfl; (with_reducible repeat (first | refine blk_drewN ?_ _ | refine blk_drew ?_ | refine blk_alloc ?_ _)); refine blk_put (cs := #[.string (rdOf ByteArray.empty t426 0), .int .u64 t431, .int .i64 0, .string (⟨#[]⟩ : ByteArray), .string (⟨#[]⟩ : ByteArray)]) ?_ 2 _ rfl; (with_reducible repeat (first | refine blk_drewN ?_ _ | refine blk_drew ?_ | refine blk_alloc ?_ _)); refine blk_put (cs := #[.string (rdOf ByteArray.empty t426 0), .int .u64 0, .int .i64 0, .string (⟨#[]⟩ : ByteArray), .string (⟨#[]⟩ : ByteArray)]) ?_ 1 _ rfl; (with_reducible repeat (first | refine blk_drewN ?_ _ | refine blk_drew ?_ | refine blk_alloc ?_ _)); refine blk_put (cs := #[.string (⟨#[]⟩ : ByteArray), .int .u64 0, .int .i64 0, .string (⟨#[]⟩ : ByteArray), .string (⟨#[]⟩ : ByteArray)]) ?_ 0 _ rfl; (with_reducible repeat (first | refine blk_drewN ?_ _ | refine blk_drew ?_ | refine blk_alloc ?_ _)); exact BK441.out⟩, ⟨bl_⟩⟩
            ·rw [if_neg c28] at H
             have c28b0 : (t437 == 0) = false := beq_eq_false_iff_ne.mpr c28
             have c28b1 : (t437 != 0) = true := bne_iff_ne.mpr c28
             have H' := Aside0.mk H
             clear H
             go_wp2
             go_meet
             case rel => exact ⟨_, (true), es_, H', ⟨by have := HJ2.out; first | omega | exact Nat.le_refl _⟩, ⟨by (with_reducible repeat (first | refine blk_drewN ?_ _ | refine blk_drew ?_ | refine blk_alloc ?_ _)); refine blk_far ?_ NB425_441.out _; (with_reducible repeat (first | refine blk_drewN ?_ _ | refine blk_drew ?_ | refine blk_alloc ?_ _)); refine blk_far ?_ NB425_441.out _; (with_reducible repeat (first | refine blk_drewN ?_ _ | refine blk_drew ?_ | refine blk_alloc ?_ _)); refine blk_far ?_ NB425_441.out _; (with_reducible repeat (first | refine blk_drewN ?_ _ | refine blk_drew ?_ | refine blk_alloc ?_ _)); refine blk_far ?_ NB425_441.out _; (with_reducible repeat (first | refine blk_drewN ?_ _ | refine blk_drew ?_ | refine blk_alloc ?_ _)); refine blk_far ?_ NB425_441.out _; (with_reducible repeat (first | refine blk_drewN ?_ _ | refine blk_drew ?_ | refine blk_alloc ?_ _)); exact BK425.out⟩, ⟨by (with_reducible repeat (first | refine blk_drewN ?_ _ | refine blk_drew ?_ | refine blk_alloc ?_ _)); refine blk_put (cs := #[.string (rdOf ByteArray.empty t426 0), .int .u64 t431, .int .i64 (wrap64 (t435)), .string (rdOf ByteArray.empty t426 3), .string (⟨#[]⟩ : ByteArray)]) ?_ 4 _ rfl; (with_reducible repeat (first | refine blk_drewN ?_ _ | refine blk_drew ?_ | refine blk_alloc ?_ _)); refine blk_put (cs := #[.string (rdOf ByteArray.empty t426 0), .int .u64 t431, .int .i64 (wrap64 (t435)), .string (⟨#[]⟩ : ByteArray), .string (⟨#[]⟩ : ByteArray)]) ?_ 3 _ rfl; (with_reducible repeat (first | refine blk_drewN ?_ _ | refine blk_drew ?_ | refine blk_alloc ?_ _)); refine blk_put (cs := #[.string (rdOf ByteArray.empty t426 0), .int .u64 t431, .int .i64 0, .string (⟨#[]⟩ : ByteArray), .string (⟨#[]⟩ : ByteArray)]) ?_ 2 _ rfl; (with_reducible repeat (first | refine blk_drewN ?_ _ | refine blk_drew ?_ | refine blk_alloc ?_ _)); refine blk_put (cs := #[.string (rdOf ByteArray.empty t426 0), .int .u64 0, .int .i64 0, .string (⟨#[]⟩ : ByteArray), .string (⟨#[]⟩ : ByteArray)]) ?_ 1 _ rfl; (with_reducible repeat (first | refine blk_drewN ?_ _ | refine blk_drew ?_ | refine blk_alloc ?_ _)); refine blk_put (cs := #[.string (⟨#[]⟩ : ByteArray), .int .u64 0, .int .i64 0, .string (⟨#[]⟩ : ByteArray), .string (⟨#[]⟩ : ByteArray)]) ?_ 0 _ rfl; (with_reducible repeat (first | refine blk_drewN ?_ _ | refine blk_drew ?_ | refine blk_alloc ?_ _)); exact BK441.out⟩, ⟨bl_⟩⟩
           ·rw [if_neg c27] at H
            have c27b0 : (t432.toList == ([] : List UInt8)) = false := beq_eq_false_iff_ne.mpr c27
            have c27b1 : (t432.toList != ([] : List UInt8)) = true := bne_iff_ne.mpr c27
            have H' := Aside0.mk H
            clear H
            go_wp2
            go_meet
            case rel => exact ⟨_, (true), es_, H', ⟨by have := HJ2.out; first | omega | exact Nat.le_refl _⟩, ⟨by (with_reducible repeat (first | refine blk_drewN ?_ _ | refine blk_drew ?_ | refine blk_alloc ?_ _)); refine blk_far ?_ NB425_441.out _; (with_reducible repeat (first | refine blk_drewN ?_ _ | refine blk_drew ?_ | refine blk_alloc ?_ _)); refine blk_far ?_ NB425_441.out _; (with_reducible repeat (first | refine blk_drewN ?_ _ | refine blk_drew ?_ | refine blk_alloc ?_ _)); refine blk_far ?_ NB425_441.out _; (with_reducible repeat (first | refine blk_drewN ?_ _ | refine blk_drew ?_ | refine blk_alloc ?_ _)); refine blk_far ?_ NB425_441.out _; (with_reducible repeat (first | refine blk_drewN ?_ _ | refine blk_drew ?_ | refine blk_alloc ?_ _)); refine blk_far ?_ NB425_441.out _; (with_reducible repeat (first | refine blk_drewN ?_ _ | refine blk_drew ?_ | refine blk_alloc ?_ _)); exact BK425.out⟩, ⟨by (with_reducible repeat (first | refine blk_drewN ?_ _ | refine blk_drew ?_ | refine blk_alloc ?_ _)); refine blk_put (cs := #[.string (rdOf ByteArray.empty t426 0), .int .u64 t431, .int .i64 (wrap64 (t435)), .string (rdOf ByteArray.empty t426 3), .string (⟨#[]⟩ : ByteArray)]) ?_ 4 _ rfl; (with_reducible repeat (first | refine blk_drewN ?_ _ | refine blk_drew ?_ | refine blk_alloc ?_ _)); refine blk_put (cs := #[.string (rdOf ByteArray.empty t426 0), .int .u64 t431, .int .i64 (wrap64 (t435)), .string (⟨#[]⟩ : ByteArray), .string (⟨#[]⟩ : ByteArray)]) ?_ 3 _ rfl; (with_reducible repeat (first | refine blk_drewN ?_ _ | refine blk_drew ?_ | refine blk_alloc ?_ _)); refine blk_put (cs := #[.string (rdOf ByteArray.empty t426 0), .int .u64 t431, .int .i64 0, .string (⟨#[]⟩ : ByteArray), .string (⟨#[]⟩ : ByteArray)]) ?_ 2 _ rfl; (with_reducible repeat (first | refine blk_drewN ?_ _ | refine blk_drew ?_ | refine blk_alloc ?_ _)); refine blk_put (cs := #[.string (rdOf ByteArray.empty t426 0), .int .u64 0, .int .i64 0, .string (⟨#[]⟩ : ByteArray), .string (⟨#[]⟩ : ByteArray)]) ?_ 1 _ rfl; (with_reducible repeat (first | refine blk_drewN ?_ _ | refine blk_drew ?_ | refine blk_alloc ?_ _)); refine blk_put (cs := #[.string (⟨#[]⟩ : ByteArray), .int .u64 0, .int .i64 0, .string (⟨#[]⟩ : ByteArray), .string (⟨#[]⟩ : ByteArray)]) ?_ 0 _ rfl; (with_reducible repeat (first | refine blk_drewN ?_ _ | refine blk_drew ?_ | refine blk_alloc ?_ _)); exact BK441.out⟩, ⟨bl_⟩⟩
          ·rw [if_neg c26] at H
           have c26b0 : (t433 == 0) = false := beq_eq_false_iff_ne.mpr c26
           have c26b1 : (t433 != 0) = true := bne_iff_ne.mpr c26
           (first | rw [c26b0] | (simp only [i64_w, i32_w]; rw [c26b0]) | rw [c26b1] | skip)
           have H' := Aside0.mk H
           clear H
           go_wp2
           go_meet
           case rel => exact ⟨_, (true), es_, H', ⟨by have := HJ2.out; first | omega | exact Nat.le_refl _⟩, ⟨by (with_reducible repeat (first | refine blk_drewN ?_ _ | refine blk_drew ?_ | refine blk_alloc ?_ _)); refine blk_far ?_ NB425_441.out _; (with_reducible repeat (first | refine blk_drewN ?_ _ | refine blk_drew ?_ | refine blk_alloc ?_ _)); refine blk_far ?_ NB425_441.out _; (with_reducible repeat (first | refine blk_drewN ?_ _ | refine blk_drew ?_ | refine blk_alloc ?_ _)); refine blk_far ?_ NB425_441.out _; (with_reducible repeat (first | refine blk_drewN ?_ _ | refine blk_drew ?_ | refine blk_alloc ?_ _)); refine blk_far ?_ NB425_441.out _; (with_reducible repeat (first | refine blk_drewN ?_ _ | refine blk_drew ?_ | refine blk_alloc ?_ _)); refine blk_far ?_ NB425_441.out _; (with_reducible repeat (first | refine blk_drewN ?_ _ | refine blk_drew ?_ | refine blk_alloc ?_ _)); exact BK425.out⟩, ⟨by (with_reducible repeat (first | refine blk_drewN ?_ _ | refine blk_drew ?_ | refine blk_alloc ?_ _)); refine blk_put (cs := #[.string (rdOf ByteArray.empty t426 0), .int .u64 t431, .int .i64 (wrap64 (t435)), .string (rdOf ByteArray.empty t426 3), .string (⟨#[]⟩ : ByteArray)]) ?_ 4 _ rfl; (with_reducible repeat (first | refine blk_drewN ?_ _ | refine blk_drew ?_ | refine blk_alloc ?_ _)); refine blk_put (cs := #[.string (rdOf ByteArray.empty t426 0), .int .u64 t431, .int .i64 (wrap64 (t435)), .string (⟨#[]⟩ : ByteArray), .string (⟨#[]⟩ : ByteArray)]) ?_ 3 _ rfl; (with_reducible repeat (first | refine blk_drewN ?_ _ | refine blk_drew ?_ | refine blk_alloc ?_ _)); refine blk_put (cs := #[.string (rdOf ByteArray.empty t426 0), .int .u64 t431, .int .i64 0, .string (⟨#[]⟩ : ByteArray), .string (⟨#[]⟩ : ByteArray)]) ?_ 2 _ rfl; (with_reducible repeat (first | refine blk_drewN ?_ _ | refine blk_drew ?_ | refine blk_alloc ?_ _)); refine blk_put (cs := #[.string (rdOf ByteArray.empty t426 0), .int .u64 0, .int .i64 0, .string (⟨#[]⟩ : ByteArray), .string (⟨#[]⟩ : ByteArray)]) ?_ 1 _ rfl; (with_reducible repeat (first | refine blk_drewN ?_ _ | refine blk_drew ?_ | refine blk_alloc ?_ _)); refine blk_put (cs := #[.string (⟨#[]⟩ : ByteArray), .int .u64 0, .int .i64 0, .string (⟨#[]⟩ : ByteArray), .string (⟨#[]⟩ : ByteArray)]) ?_ 0 _ rfl; (with_reducible repeat (first | refine blk_drewN ?_ _ | refine blk_drew ?_ | refine blk_alloc ?_ _)); exact BK441.out⟩, ⟨bl_⟩⟩
         case rest =>
          clear HC17
          try clear c1
          try clear c2
          try clear p2
          try clear c3
          try clear c4
          try clear p4
          try clear q4
          try clear hx4
          try clear qi4
          try clear c6
          try clear c6b0
          try clear c6b1
          try clear p6
          try clear c8
          try clear c10
          try clear c10b0
          try clear c10b1
          try clear c12
          try clear c12b0
          try clear c12b1
          try clear c14
          try clear c14b0
          try clear c14b1
          try clear c15
          try clear c15b0
          try clear c15b1
          try clear c16
          try clear c16b0
          try clear c16b1
          try clear c26
          try clear c26b0
          try clear c26b1
          try clear c27
          try clear c27b0
          try clear c27b1
          try clear c28
          try clear c28b0
          try clear c28b1
          try clear c29
          try clear c29b0
          try clear c29b1
          try clear c30
          try clear c30b0
          try clear c32
          try clear hcz33_0
          try clear hcz33_1
          try clear hcz33_2
          try clear hcz33_3
          try clear hcz33_4
          try clear hcz9_0
          try clear hcz9_1
          try clear hcz9_2
          try clear hcz9_3
          try clear hcz9_4
          try clear hfz33_0
          try clear hfz33_1
          try clear hfz33_2
          try clear hfz33_3
          try clear hfz33_4
          try clear hfz9_0
          try clear hfz9_1
          try clear hfz9_2
          try clear hfz9_3
          try clear hfz9_4
          try clear hx430_0
          try clear hx434_0
          try clear hx438_0
          try clear hx439_0
          try clear hx440_0
          try clear p2
          try clear p430
          try clear p434
          try clear p438
          try clear p439
          try clear p440
          try clear q430
          try clear q434
          try clear q438
          try clear q439
          try clear q440
          obtain ⟨kq, x76_16, rfl, HA, HJ16, BK425, BK441, HB⟩ := hcut
          cases kq with
          | zero => exact absurd HA.out (by simp [letterlockref11_Take.j1])
          | succ kj16 =>
           have H := HA.out
           clear HA
           simp only [letterlockref11_Take.j1] at H
           by_cases c35 : x76_16 = true
           ·subst c35
            rw [if_pos rfl] at H
            simp only [Option.some.injEq, Prod.mk.injEq] at H
            obtain ⟨rfl, rfl, rfl, rfl, rfl, rfl⟩ := H
            have hnb36 := NB425_441.out
            have hnc36 := NB441_425.out
            have hcz37_0 : wc.cell? ⟨gb425, 0, none⟩ = some (.string (⟨#[]⟩ : ByteArray)) := (blk_cell BK425.out 0).trans rfl
            have hcz37_1 : wc.cell? ⟨gb425, 1, none⟩ = some (.int .u64 0) := (blk_cell BK425.out 1).trans rfl
            have hcz37_2 : wc.cell? ⟨gb425, 2, none⟩ = some (.int .i64 0) := (blk_cell BK425.out 2).trans rfl
            have hcz37_3 : wc.cell? ⟨gb425, 3, none⟩ = some (.string (⟨#[]⟩ : ByteArray)) := (blk_cell BK425.out 3).trans rfl
            have hcz37_4 : wc.cell? ⟨gb425, 4, none⟩ = some (.string (⟨#[]⟩ : ByteArray)) := (blk_cell BK425.out 4).trans rfl
            have hfz37_0 := blk_frozen BK425.out 0
            have hfz37_1 := blk_frozen BK425.out 1
            have hfz37_2 := blk_frozen BK425.out 2
            have hfz37_3 := blk_frozen BK425.out 3
            have hfz37_4 := blk_frozen BK425.out 4
            go_wp2
            refine bodyPost_ret (results_ct rfl _ _ gb425 28 #[.string (⟨#[]⟩ : ByteArray), .int .u64 0, .int .i64 0, .string (⟨#[]⟩ : ByteArray), .string (⟨#[]⟩ : ByteArray)] (0, 0) _ rfl (by (with_reducible repeat (first | refine blk_drewN ?_ _ | refine blk_drew ?_ | refine blk_alloc ?_ _)); refine blk_put (cs := #[.string (⟨#[]⟩ : ByteArray), .int .u64 0, .int .i64 0, .string (⟨#[]⟩ : ByteArray), .string (⟨#[]⟩ : ByteArray)]) ?_ 4 _ rfl; (with_reducible repeat (first | refine blk_drewN ?_ _ | refine blk_drew ?_ | refine blk_alloc ?_ _)); refine blk_put (cs := #[.string (⟨#[]⟩ : ByteArray), .int .u64 0, .int .i64 0, .string (⟨#[]⟩ : ByteArray), .string (⟨#[]⟩ : ByteArray)]) ?_ 3 _ rfl; (with_reducible repeat (first | refine blk_drewN ?_ _ | refine blk_drew ?_ | refine blk_alloc ?_ _)); refine blk_put (cs := #[.string (⟨#[]⟩ : ByteArray), .int .u64 0, .int .i64 0, .string (⟨#[]⟩ : ByteArray), .string (⟨#[]⟩ : ByteArray)]) ?_ 2 _ rfl; (with_reducible repeat (first | refine blk_drewN ?_ _ | refine blk_drew ?_ | refine blk_alloc ?_ _)); refine blk_put (cs := #[.string (⟨#[]⟩ : ByteArray), .int .u64 0, .int .i64 0, .string (⟨#[]⟩ : ByteArray), .string (⟨#[]⟩ : ByteArray)]) ?_ 1 _ rfl; (with_reducible repeat (first | refine blk_drewN ?_ _ | refine blk_drew ?_ | refine blk_alloc ?_ _)); refine blk_put (cs := #[.string (⟨#[]⟩ : ByteArray), .int .u64 0, .int .i64 0, .string (⟨#[]⟩ : ByteArray), .string (⟨#[]⟩ : ByteArray)]) ?_ 0 _ rfl; (with_reducible repeat (first | refine blk_drewN ?_ _ | refine blk_drew ?_ | refine blk_alloc ?_ _)); exact BK425.out) Tryz.underlying28 rfl (by kernel_rfl)) rfl ?_
            exact ⟨eq_, bl_⟩
           ·replace c35 := Bool.eq_false_iff.mpr c35
            subst c35
            rw [if_neg (show ¬ (false = true) by decide)] at H
            simp only [Option.some.injEq, Prod.mk.injEq] at H
            obtain ⟨rfl, rfl, rfl, rfl, rfl, rfl⟩ := H
            have hnb38 := NB441_425.out
            have hnc38 := NB425_441.out
            have hcz39_0 : wc.cell? ⟨gb441, 0, none⟩ = some (.string (rdOf ByteArray.empty t426 0)) := (blk_cell BK441.out 0).trans rfl
            have hcz39_1 : wc.cell? ⟨gb441, 1, none⟩ = some (.int .u64 t431) := (blk_cell BK441.out 1).trans rfl
            have hcz39_2 : wc.cell? ⟨gb441, 2, none⟩ = some (.int .i64 (wrap64 (t435))) := (blk_cell BK441.out 2).trans rfl
            have hcz39_3 : wc.cell? ⟨gb441, 3, none⟩ = some (.string (rdOf ByteArray.empty t426 3)) := (blk_cell BK441.out 3).trans rfl
            have hcz39_4 : wc.cell? ⟨gb441, 4, none⟩ = some (.string (rdOf ByteArray.empty t426 4)) := (blk_cell BK441.out 4).trans rfl
            have hfz39_0 := blk_frozen BK441.out 0
            have hfz39_1 := blk_frozen BK441.out 1
            have hfz39_2 := blk_frozen BK441.out 2
            have hfz39_3 := blk_frozen BK441.out 3
            have hfz39_4 := blk_frozen BK441.out 4
            have hcz40_0 : wc.cell? ⟨gb425, 0, none⟩ = some (.string (⟨#[]⟩ : ByteArray)) := (blk_cell BK425.out 0).trans rfl
            have hcz40_1 : wc.cell? ⟨gb425, 1, none⟩ = some (.int .u64 0) := (blk_cell BK425.out 1).trans rfl
            have hcz40_2 : wc.cell? ⟨gb425, 2, none⟩ = some (.int .i64 0) := (blk_cell BK425.out 2).trans rfl
            have hcz40_3 : wc.cell? ⟨gb425, 3, none⟩ = some (.string (⟨#[]⟩ : ByteArray)) := (blk_cell BK425.out 3).trans rfl
            have hcz40_4 : wc.cell? ⟨gb425, 4, none⟩ = some (.string (⟨#[]⟩ : ByteArray)) := (blk_cell BK425.out 4).trans rfl
            have hfz40_0 := blk_frozen BK425.out 0
            have hfz40_1 := blk_frozen BK425.out 1
            have hfz40_2 := blk_frozen BK425.out 2
            have hfz40_3 := blk_frozen BK425.out 3
            have hfz40_4 := blk_frozen BK425.out 4
            go_wp2
            refine bodyPost_ret (results_ct rfl _ _ gb425 28 #[.string (rdOf ByteArray.empty t426 0), .int .u64 t431, .int .i64 (wrap64 (t435)), .string (rdOf ByteArray.empty t426 3), .string (rdOf ByteArray.empty t426 4)] (0, 0) _ rfl (by (with_reducible repeat (first | refine blk_drewN ?_ _ | refine blk_drew ?_ | refine blk_alloc ?_ _)); refine blk_put (cs := #[.string (rdOf ByteArray.empty t426 0), .int .u64 t431, .int .i64 (wrap64 (t435)), .string (rdOf ByteArray.empty t426 3), .string (⟨#[]⟩ : ByteArray)]) ?_ 4 _ rfl; (with_reducible repeat (first | refine blk_drewN ?_ _ | refine blk_drew ?_ | refine blk_alloc ?_ _)); refine blk_put (cs := #[.string (rdOf ByteArray.empty t426 0), .int .u64 t431, .int .i64 (wrap64 (t435)), .string (⟨#[]⟩ : ByteArray), .string (⟨#[]⟩ : ByteArray)]) ?_ 3 _ rfl; (with_reducible repeat (first | refine blk_drewN ?_ _ | refine blk_drew ?_ | refine blk_alloc ?_ _)); refine blk_put (cs := #[.string (rdOf ByteArray.empty t426 0), .int .u64 t431, .int .i64 0, .string (⟨#[]⟩ : ByteArray), .string (⟨#[]⟩ : ByteArray)]) ?_ 2 _ rfl; (with_reducible repeat (first | refine blk_drewN ?_ _ | refine blk_drew ?_ | refine blk_alloc ?_ _)); refine blk_put (cs := #[.string (rdOf ByteArray.empty t426 0), .int .u64 0, .int .i64 0, .string (⟨#[]⟩ : ByteArray), .string (⟨#[]⟩ : ByteArray)]) ?_ 1 _ rfl; (with_reducible repeat (first | refine blk_drewN ?_ _ | refine blk_drew ?_ | refine blk_alloc ?_ _)); refine blk_put (cs := #[.string (⟨#[]⟩ : ByteArray), .int .u64 0, .int .i64 0, .string (⟨#[]⟩ : ByteArray), .string (⟨#[]⟩ : ByteArray)]) ?_ 0 _ rfl; (with_reducible repeat (first | refine blk_drewN ?_ _ | refine blk_drew ?_ | refine blk_alloc ?_ _)); exact BK425.out) Tryz.underlying28 rfl (by kernel_rfl)) rfl ?_
            exact ⟨eq_, bl_⟩
        ·rw [if_neg c16] at H
         exact absurd H (by simp)
       ·rw [if_neg c15] at H
        exact absurd H (by simp)
      ·rw [if_neg c14] at H
       exact absurd H (by simp)
     ·rw [if_neg c12] at H
      exact absurd H (by simp)
    ·rw [if_neg c10] at H
     exact absurd H (by simp)
mutual
def letterlockref11_Check.j0 : Nat → ByteArray → ByteArray → Int → Int → Bool → ByteArray → Int → Int → ByteArray → ByteArray → Option (Int)
 | 0, _, _, _, _, _, _, _, _, _, _ => none
 | k + 1, x1, x2, x3, x4, x20, x447000, x447001, x447002, x447003, x447004 => if x20 = true then (some 1) else ((letterlockref11_signed.f k x447000 x447001 x447002 x447003 x447004).bind fun bt449 => (if bt449.2 = 0 then ((letterlockref3_Verify.f k x1 bt449.1 x447004).bind fun t451 => (letterlockref11_Check.j1 k x2 x3 x4 (t451 != 0) x447000 x447001 x447002 x447003 x447004)) else (letterlockref11_Check.j1 k x2 x3 x4 true x447000 x447001 x447002 x447003 x447004)))
def letterlockref11_Check.j1 : Nat → ByteArray → Int → Int → Bool → ByteArray → Int → Int → ByteArray → ByteArray → Option (Int)
 | 0, _, _, _, _, _, _, _, _, _ => none
 | k + 1, x2, x3, x4, x35, x447000, x447001, x447002, x447003, x447004 => if x35 = true then (some 7) else (if x447000.toList = x2.toList then (if x447001 > x3 then (some 8) else (if (IntKind.u64.wrap (x3 - x447001)) > x4 then (some 8) else (some 0))) else (some 3))
end
def letterlockref11_Check.f (k : Nat) (a0_0 : ByteArray) (a0_1 : Int) (a0_2 : Int) (a0_3 : ByteArray) (a0_4 : ByteArray) (a1 : ByteArray) (a2 : ByteArray) (a3 : Int) (a4 : Int) : Option (Int) := (letterlockref11_Right.f k a0_0 a0_1 a0_2 a0_3 a0_4).bind fun t447 => (if t447 = true then ((letterlockref3_Kind.f k a1).bind fun t448 => (letterlockref11_Check.j0 k a1 a2 a3 a4 (t448 != 117) a0_0 a0_1 a0_2 a0_3 a0_4)) else (letterlockref11_Check.j0 k a1 a2 a3 a4 true a0_0 a0_1 a0_2 a0_3 a0_4))
set_option maxHeartbeats 8000000 in
set_option maxRecDepth 100000 in
theorem letterlockref11_Check.calls (k : Nat) (a0_0 : ByteArray) (a0_1 : Int) (a0_2 : Int) (a0_3 : ByteArray) (a0_4 : ByteArray) (a1 : ByteArray) (a2 : ByteArray) (a3 : Int) (a4 : Int) (r : Int) (w : World) (h : letterlockref11_Check.f k a0_0 a0_1 a0_2 a0_3 a0_4 a1 a2 a3 a4 = some r) :
  Calls Tryz.prog 16 #[.agg #[.string a0_0, .int .u64 a0_1, .int .i64 a0_2, .string a0_3, .string a0_4], .string a1, .string a2, .int .u64 a3, .int .u64 a4] w fun e w' => e = .returned (.int .i64 r) ∧ Below w.heap.size w w' := by
 have hu28 := Tryz.underlying28
 have HB := Aside0.mk (Below.refl w.heap.size w)
 unfold letterlockref11_Check.f at h
 have H := h
 clear h
 have HC6 := Aside0.mk H
 clear H
 go_enter Tryz.func16, Tryz.ntmps16
 go_upto_region 1 with (first | ((with_reducible refine gate_dst (N := 5) rfl ?_); refine box_event ?hg (N := 5) ?hd (cs := #[.string a0_0, .int .u64 a0_1, .int .i64 a0_2, .string a0_3, .string a0_4]) (t := 28) ?hr ?_; (case hd => rfl); (case hg => rfl); (case hr => first | (go_simp; done) | (go_simp; rfl)); intro gb446 hg w7 hbox hb; have n0_ := Aside0.mk (below_step bl_ hb); have n1_ := Aside0.mk (hbox); have n2_ := Aside0.mk ((by rw [hg]; exact (below_size bl_) : w.heap.size ≤ gb446)); have n3_ := Aside0.mk ((by rw [hg]; exact (below_size bl_) : w.heap.size ≤ gb446)); clear HB; have HB := n0_; have BK446 := n1_; have GW446 := n2_; have GE446 := n3_; clear n0_ n1_ n2_ n3_; clear hb hbox hg))
 (try simp only [Act.put, List.setIfInBounds_toArray, List.set_cons_zero, List.set_cons_succ])
 go_cut [20] (fun v20 wc => ∃ (kq : Nat) (x20_5 : Bool), v20 = .bool x20_5 ∧ Aside0 (letterlockref11_Check.j0 kq a1 a2 a3 a4 x20_5 a0_0 a0_1 a0_2 a0_3 a0_4 = some r) ∧ Aside0 (kq ≤ k) ∧ Aside0 (wc.heap[gb446]? = some (.cells #[.string a0_0, .int .u64 a0_1, .int .i64 a0_2, .string a0_3, .string a0_4] 28 (0, 0))) ∧ Aside0 (Below w.heap.size w wc))
 case first =>
  have H := HC6.out
  clear HC6
  replace H := Option.bind_eq_some_iff.mp H
  obtain ⟨t447, A80, H⟩ := H
  try dsimp only at H
  have A8 := Aside0.mk A80
  clear A80
  by_cases c9 : t447 = true
  ·subst c9
   rw [if_pos rfl] at H
   replace H := Option.bind_eq_some_iff.mp H
   obtain ⟨t448, A100, H⟩ := H
   try dsimp only at H
   have A10 := Aside0.mk A100
   clear A100
   have H' := Aside0.mk H
   clear H
   have hcz11_0 : w7.cell? ⟨gb446, 0, none⟩ = some (.string a0_0) := (blk_cell BK446.out 0).trans rfl
   have hcz11_1 : w7.cell? ⟨gb446, 1, none⟩ = some (.int .u64 a0_1) := (blk_cell BK446.out 1).trans rfl
   have hcz11_2 : w7.cell? ⟨gb446, 2, none⟩ = some (.int .i64 a0_2) := (blk_cell BK446.out 2).trans rfl
   have hcz11_3 : w7.cell? ⟨gb446, 3, none⟩ = some (.string a0_3) := (blk_cell BK446.out 3).trans rfl
   have hcz11_4 : w7.cell? ⟨gb446, 4, none⟩ = some (.string a0_4) := (blk_cell BK446.out 4).trans rfl
   have hfz11_0 := blk_frozen BK446.out 0
   have hfz11_1 := blk_frozen BK446.out 1
   have hfz11_2 := blk_frozen BK446.out 2
   have hfz11_3 := blk_frozen BK446.out 3
   have hfz11_4 := blk_frozen BK446.out 4
   go_wp2_with (first | ((with_reducible refine gate_callee (f := 14) rfl ?_); refine gL (some 14) Tryz.func14 #[.agg #[.string a0_0, .int .u64 a0_1, .int .i64 a0_2, .string a0_3, .string a0_4]] rfl ?_; (with_reducible refine (letterlockref11_Right.calls k a0_0 a0_1 a0_2 a0_3 a0_4 true _ A8.out).mono ?_); rintro e w12 ⟨rfl, hb⟩; refine ⟨_, rfl, ?_⟩; have n0_ := Aside0.mk (blk_below (g := gb446) (o := .cells #[.string a0_0, .int .u64 a0_1, .int .i64 a0_2, .string a0_3, .string a0_4] 28 (0, 0)) kl_ hb); have n1_ := Aside0.mk (below_step bl_ hb); clear BK446; clear HB; have BK446 := n0_; have HB := n1_; clear n0_ n1_; (try clear hb)) | (go_at_call 41; (with_reducible refine (letterlockref3_Kind.calls k a1 t448 _ A10.out).mono ?_); rintro e w13 ⟨rfl, hb⟩; have n0_ := Aside0.mk (blk_below (g := gb446) (o := .cells #[.string a0_0, .int .u64 a0_1, .int .i64 a0_2, .string a0_3, .string a0_4] 28 (0, 0)) kl_ hb); have n1_ := Aside0.mk (below_step bl_ hb); clear BK446; clear HB; have BK446 := n0_; have HB := n1_; clear n0_ n1_; (try clear hb)))
   go_meet
   case rel => exact ⟨_, ((t448 != 117)), es_, H', ⟨by first | omega | exact Nat.le_refl _⟩, ⟨kl_⟩, ⟨bl_⟩⟩
  ·replace c9 := Bool.eq_false_iff.mpr c9
   subst c9
   rw [if_neg (show ¬ (false = true) by decide)] at H
   have H' := Aside0.mk H
   clear H
   have hcz14_0 : w7.cell? ⟨gb446, 0, none⟩ = some (.string a0_0) := (blk_cell BK446.out 0).trans rfl
   have hcz14_1 : w7.cell? ⟨gb446, 1, none⟩ = some (.int .u64 a0_1) := (blk_cell BK446.out 1).trans rfl
   have hcz14_2 : w7.cell? ⟨gb446, 2, none⟩ = some (.int .i64 a0_2) := (blk_cell BK446.out 2).trans rfl
   have hcz14_3 : w7.cell? ⟨gb446, 3, none⟩ = some (.string a0_3) := (blk_cell BK446.out 3).trans rfl
   have hcz14_4 : w7.cell? ⟨gb446, 4, none⟩ = some (.string a0_4) := (blk_cell BK446.out 4).trans rfl
   have hfz14_0 := blk_frozen BK446.out 0
   have hfz14_1 := blk_frozen BK446.out 1
   have hfz14_2 := blk_frozen BK446.out 2
   have hfz14_3 := blk_frozen BK446.out 3
   have hfz14_4 := blk_frozen BK446.out 4
   go_wp2_with (first | ((with_reducible refine gate_callee (f := 14) rfl ?_); refine gL (some 14) Tryz.func14 #[.agg #[.string a0_0, .int .u64 a0_1, .int .i64 a0_2, .string a0_3, .string a0_4]] rfl ?_; (with_reducible refine (letterlockref11_Right.calls k a0_0 a0_1 a0_2 a0_3 a0_4 false _ A8.out).mono ?_); rintro e w15 ⟨rfl, hb⟩; refine ⟨_, rfl, ?_⟩; have n0_ := Aside0.mk (blk_below (g := gb446) (o := .cells #[.string a0_0, .int .u64 a0_1, .int .i64 a0_2, .string a0_3, .string a0_4] 28 (0, 0)) kl_ hb); have n1_ := Aside0.mk (below_step bl_ hb); clear BK446; clear HB; have BK446 := n0_; have HB := n1_; clear n0_ n1_; (try clear hb)))
   go_meet
   case rel => exact ⟨_, (true), es_, H', ⟨by first | omega | exact Nat.le_refl _⟩, ⟨kl_⟩, ⟨bl_⟩⟩
 case rest =>
  clear HC6
  try clear c1
  try clear p2
  try clear c9
  try clear c14
  try clear hcz11_0
  try clear hcz11_1
  try clear hcz11_2
  try clear hcz11_3
  try clear hcz11_4
  try clear hcz14_0
  try clear hcz14_1
  try clear hcz14_2
  try clear hcz14_3
  try clear hcz14_4
  try clear hfz11_0
  try clear hfz11_1
  try clear hfz11_2
  try clear hfz11_3
  try clear hfz11_4
  try clear hfz14_0
  try clear hfz14_1
  try clear hfz14_2
  try clear hfz14_3
  try clear hfz14_4
  obtain ⟨kq, x20_5, rfl, HA, HJ5, BK446, HB⟩ := hcut
  cases kq with
  | zero => exact absurd HA.out (by simp [letterlockref11_Check.j0])
  | succ kj5 =>
   have H := HA.out
   clear HA
   simp only [letterlockref11_Check.j0] at H
   by_cases c16 : x20_5 = true
   ·subst c16
    rw [if_pos rfl] at H
    obtain rfl := Option.some.inj H
    go_wp2
    go_ret
    exact ⟨eq_, bl_⟩
   ·replace c16 := Bool.eq_false_iff.mpr c16
    subst c16
    rw [if_neg (show ¬ (false = true) by decide)] at H
    replace H := Option.bind_eq_some_iff.mp H
    obtain ⟨⟨t449, t450⟩, A170, H⟩ := H
    try dsimp only at H
    have A17 := Aside0.mk A170
    clear A170
    have HC18 := Aside0.mk H
    clear H
    have hcz19_0 : wc.cell? ⟨gb446, 0, none⟩ = some (.string a0_0) := (blk_cell BK446.out 0).trans rfl
    have hcz19_1 : wc.cell? ⟨gb446, 1, none⟩ = some (.int .u64 a0_1) := (blk_cell BK446.out 1).trans rfl
    have hcz19_2 : wc.cell? ⟨gb446, 2, none⟩ = some (.int .i64 a0_2) := (blk_cell BK446.out 2).trans rfl
    have hcz19_3 : wc.cell? ⟨gb446, 3, none⟩ = some (.string a0_3) := (blk_cell BK446.out 3).trans rfl
    have hcz19_4 : wc.cell? ⟨gb446, 4, none⟩ = some (.string a0_4) := (blk_cell BK446.out 4).trans rfl
    have hfz19_0 := blk_frozen BK446.out 0
    have hfz19_1 := blk_frozen BK446.out 1
    have hfz19_2 := blk_frozen BK446.out 2
    have hfz19_3 := blk_frozen BK446.out 3
    have hfz19_4 := blk_frozen BK446.out 4
    go_upto_region 4 with (first | ((with_reducible refine gate_callee (f := 31) rfl ?_); refine gL (some 23) Tryz.func31 #[.agg #[.string a0_0, .int .u64 a0_1, .int .i64 a0_2, .string a0_3, .string a0_4]] rfl ?_; (with_reducible refine (letterlockref11_signed.calls kj5 a0_0 a0_1 a0_2 a0_3 a0_4 t449 t450 _ A17.out).mono ?_); rintro e w20 ⟨rfl, hb⟩; refine ⟨_, rfl, ?_⟩; have n0_ := Aside0.mk (blk_below (g := gb446) (o := .cells #[.string a0_0, .int .u64 a0_1, .int .i64 a0_2, .string a0_3, .string a0_4] 28 (0, 0)) kl_ hb); have n1_ := Aside0.mk (below_step bl_ hb); clear BK446; clear HB; have BK446 := n0_; have HB := n1_; clear n0_ n1_; (try clear hb)))
    (try simp only [Act.put, List.setIfInBounds_toArray, List.set_cons_zero, List.set_cons_succ])
    go_cut [35] (fun v35 wc => ∃ (kq : Nat) (x35_17 : Bool), v35 = .bool x35_17 ∧ Aside0 (letterlockref11_Check.j1 kq a2 a3 a4 x35_17 a0_0 a0_1 a0_2 a0_3 a0_4 = some r) ∧ Aside0 (kq ≤ kj5) ∧ Aside0 (wc.heap[gb446]? = some (.cells #[.string a0_0, .int .u64 a0_1, .int .i64 a0_2, .string a0_3, .string a0_4] 28 (0, 0))) ∧ Aside0 (Below w.heap.size w wc))
    case first =>
     have H := HC18.out
     clear HC18
     by_cases c21 : t450 = 0
     ·rw [if_pos c21] at H
      have c21b0 : (t450 == 0) = true := beq_iff_eq.mpr c21
      have c21b1 : (t450 != 0) = false := bne_eq_false_iff_eq.mpr c21
      clear c21
      (first | rw [c21b0] | (simp only [i64_w, i32_w]; rw [c21b0]) | rw [c21b1] | skip)
      replace H := Option.bind_eq_some_iff.mp H
      obtain ⟨t451, A220, H⟩ := H
      try dsimp only at H
      have A22 := Aside0.mk A220
      clear A220
      have H' := Aside0.mk H
      clear H
      have hcz23_0 : w20.cell? ⟨gb446, 0, none⟩ = some (.string a0_0) := (blk_cell BK446.out 0).trans rfl
      have hcz23_1 : w20.cell? ⟨gb446, 1, none⟩ = some (.int .u64 a0_1) := (blk_cell BK446.out 1).trans rfl
      have hcz23_2 : w20.cell? ⟨gb446, 2, none⟩ = some (.int .i64 a0_2) := (blk_cell BK446.out 2).trans rfl
      have hcz23_3 : w20.cell? ⟨gb446, 3, none⟩ = some (.string a0_3) := (blk_cell BK446.out 3).trans rfl
      have hcz23_4 : w20.cell? ⟨gb446, 4, none⟩ = some (.string a0_4) := (blk_cell BK446.out 4).trans rfl
      have hfz23_0 := blk_frozen BK446.out 0
      have hfz23_1 := blk_frozen BK446.out 1
      have hfz23_2 := blk_frozen BK446.out 2
      have hfz23_3 := blk_frozen BK446.out 3
      have hfz23_4 := blk_frozen BK446.out 4
      go_wp2_with (first | (go_at_call 43; (with_reducible refine (letterlockref3_Verify.calls kj5 a1 t449 a0_4 t451 _ A22.out).mono ?_); rintro e w24 ⟨rfl, hb⟩; have n0_ := Aside0.mk (blk_below (g := gb446) (o := .cells #[.string a0_0, .int .u64 a0_1, .int .i64 a0_2, .string a0_3, .string a0_4] 28 (0, 0)) kl_ hb); have n1_ := Aside0.mk (below_step bl_ hb); clear BK446; clear HB; have BK446 := n0_; have HB := n1_; clear n0_ n1_; (try clear hb)))
      go_meet
      case rel => exact ⟨_, ((t451 != 0)), es_, H', ⟨by have := HJ5.out; first | omega | exact Nat.le_refl _⟩, ⟨kl_⟩, ⟨bl_⟩⟩
     ·rw [if_neg c21] at H
      have c21b0 : (t450 == 0) = false := beq_eq_false_iff_ne.mpr c21
      have c21b1 : (t450 != 0) = true := bne_iff_ne.mpr c21
      (first | rw [c21b0] | (simp only [i64_w, i32_w]; rw [c21b0]) | rw [c21b1] | skip)
      have H' := Aside0.mk H
      clear H
      go_wp2
      go_meet
      case rel => exact ⟨_, (true), es_, H', ⟨by have := HJ5.out; first | omega | exact Nat.le_refl _⟩, ⟨kl_⟩, ⟨bl_⟩⟩
    case rest =>
     clear HC18
     try clear c1
     try clear c2
     try clear p2
     try clear c3
     try clear c9
     try clear c14
     try clear c16
     try clear c21
     try clear c21b0
     try clear c21b1
     try clear hcz11_0
     try clear hcz11_1
     try clear hcz11_2
     try clear hcz11_3
     try clear hcz11_4
     try clear hcz14_0
     try clear hcz14_1
     try clear hcz14_2
     try clear hcz14_3
     try clear hcz14_4
     try clear hcz19_0
     try clear hcz19_1
     try clear hcz19_2
     try clear hcz19_3
     try clear hcz19_4
     try clear hcz23_0
     try clear hcz23_1
     try clear hcz23_2
     try clear hcz23_3
     try clear hcz23_4
     try clear hfz11_0
     try clear hfz11_1
     try clear hfz11_2
     try clear hfz11_3
     try clear hfz11_4
     try clear hfz14_0
     try clear hfz14_1
     try clear hfz14_2
     try clear hfz14_3
     try clear hfz14_4
     try clear hfz19_0
     try clear hfz19_1
     try clear hfz19_2
     try clear hfz19_3
     try clear hfz19_4
     try clear hfz23_0
     try clear hfz23_1
     try clear hfz23_2
     try clear hfz23_3
     try clear hfz23_4
     try clear p2
     obtain ⟨kq, x35_17, rfl, HA, HJ17, BK446, HB⟩ := hcut
     cases kq with
     | zero => exact absurd HA.out (by simp [letterlockref11_Check.j1])
     | succ kj17 =>
      have H := HA.out
      clear HA
      simp only [letterlockref11_Check.j1] at H
      by_cases c25 : x35_17 = true
      ·subst c25
       rw [if_pos rfl] at H
       obtain rfl := Option.some.inj H
       go_wp2
       go_ret
       exact ⟨eq_, bl_⟩
      ·replace c25 := Bool.eq_false_iff.mpr c25
       subst c25
       rw [if_neg (show ¬ (false = true) by decide)] at H
       by_cases c26 : a0_0.toList = a2.toList
       ·rw [if_pos c26] at H
        have c26b0 : (a0_0.toList == a2.toList) = true := beq_iff_eq.mpr c26
        have c26b1 : (a0_0.toList != a2.toList) = false := bne_eq_false_iff_eq.mpr c26
        clear c26
        by_cases c27 : a0_1 > a3
        ·rw [if_pos c27] at H
         have c27b0 : decide (a3 < a0_1) = true := decide_eq_true c27
         clear c27
         obtain rfl := Option.some.inj H
         have hcz28_0 : wc.cell? ⟨gb446, 0, none⟩ = some (.string a0_0) := (blk_cell BK446.out 0).trans rfl
         have hcz28_1 : wc.cell? ⟨gb446, 1, none⟩ = some (.int .u64 a0_1) := (blk_cell BK446.out 1).trans rfl
         have hcz28_2 : wc.cell? ⟨gb446, 2, none⟩ = some (.int .i64 a0_2) := (blk_cell BK446.out 2).trans rfl
         have hcz28_3 : wc.cell? ⟨gb446, 3, none⟩ = some (.string a0_3) := (blk_cell BK446.out 3).trans rfl
         have hcz28_4 : wc.cell? ⟨gb446, 4, none⟩ = some (.string a0_4) := (blk_cell BK446.out 4).trans rfl
         have hfz28_0 := blk_frozen BK446.out 0
         have hfz28_1 := blk_frozen BK446.out 1
         have hfz28_2 := blk_frozen BK446.out 2
         have hfz28_3 := blk_frozen BK446.out 3
         have hfz28_4 := blk_frozen BK446.out 4
         go_wp2
         go_ret
         exact ⟨eq_, bl_⟩
        ·rw [if_neg c27] at H
         have c27b0 : decide (a3 < a0_1) = false := decide_eq_false c27
         clear c27
         by_cases c29 : (IntKind.u64.wrap (a3 - a0_1)) > a4
         ·rw [if_pos c29] at H
          have c29b0 : decide (a4 < (IntKind.u64.wrap (a3 - a0_1))) = true := decide_eq_true c29
          clear c29
          obtain rfl := Option.some.inj H
          have hcz30_0 : wc.cell? ⟨gb446, 0, none⟩ = some (.string a0_0) := (blk_cell BK446.out 0).trans rfl
          have hcz30_1 : wc.cell? ⟨gb446, 1, none⟩ = some (.int .u64 a0_1) := (blk_cell BK446.out 1).trans rfl
          have hcz30_2 : wc.cell? ⟨gb446, 2, none⟩ = some (.int .i64 a0_2) := (blk_cell BK446.out 2).trans rfl
          have hcz30_3 : wc.cell? ⟨gb446, 3, none⟩ = some (.string a0_3) := (blk_cell BK446.out 3).trans rfl
          have hcz30_4 : wc.cell? ⟨gb446, 4, none⟩ = some (.string a0_4) := (blk_cell BK446.out 4).trans rfl
          have hfz30_0 := blk_frozen BK446.out 0
          have hfz30_1 := blk_frozen BK446.out 1
          have hfz30_2 := blk_frozen BK446.out 2
          have hfz30_3 := blk_frozen BK446.out 3
          have hfz30_4 := blk_frozen BK446.out 4
          go_wp2
          go_ret
          exact ⟨eq_, bl_⟩
         ·rw [if_neg c29] at H
          have c29b0 : decide (a4 < (IntKind.u64.wrap (a3 - a0_1))) = false := decide_eq_false c29
          clear c29
          obtain rfl := Option.some.inj H
          have hcz31_0 : wc.cell? ⟨gb446, 0, none⟩ = some (.string a0_0) := (blk_cell BK446.out 0).trans rfl
          have hcz31_1 : wc.cell? ⟨gb446, 1, none⟩ = some (.int .u64 a0_1) := (blk_cell BK446.out 1).trans rfl
          have hcz31_2 : wc.cell? ⟨gb446, 2, none⟩ = some (.int .i64 a0_2) := (blk_cell BK446.out 2).trans rfl
          have hcz31_3 : wc.cell? ⟨gb446, 3, none⟩ = some (.string a0_3) := (blk_cell BK446.out 3).trans rfl
          have hcz31_4 : wc.cell? ⟨gb446, 4, none⟩ = some (.string a0_4) := (blk_cell BK446.out 4).trans rfl
          have hfz31_0 := blk_frozen BK446.out 0
          have hfz31_1 := blk_frozen BK446.out 1
          have hfz31_2 := blk_frozen BK446.out 2
          have hfz31_3 := blk_frozen BK446.out 3
          have hfz31_4 := blk_frozen BK446.out 4
          go_wp2
          go_ret
          exact ⟨eq_, bl_⟩
       ·rw [if_neg c26] at H
        have c26b0 : (a0_0.toList == a2.toList) = false := beq_eq_false_iff_ne.mpr c26
        have c26b1 : (a0_0.toList != a2.toList) = true := bne_iff_ne.mpr c26
        obtain rfl := Option.some.inj H
        have hcz32_0 : wc.cell? ⟨gb446, 0, none⟩ = some (.string a0_0) := (blk_cell BK446.out 0).trans rfl
        have hcz32_1 : wc.cell? ⟨gb446, 1, none⟩ = some (.int .u64 a0_1) := (blk_cell BK446.out 1).trans rfl
        have hcz32_2 : wc.cell? ⟨gb446, 2, none⟩ = some (.int .i64 a0_2) := (blk_cell BK446.out 2).trans rfl
        have hcz32_3 : wc.cell? ⟨gb446, 3, none⟩ = some (.string a0_3) := (blk_cell BK446.out 3).trans rfl
        have hcz32_4 : wc.cell? ⟨gb446, 4, none⟩ = some (.string a0_4) := (blk_cell BK446.out 4).trans rfl
        have hfz32_0 := blk_frozen BK446.out 0
        have hfz32_1 := blk_frozen BK446.out 1
        have hfz32_2 := blk_frozen BK446.out 2
        have hfz32_3 := blk_frozen BK446.out 3
        have hfz32_4 := blk_frozen BK446.out 4
        go_wp2
        go_ret
        exact ⟨eq_, bl_⟩
end Go.Proofs.YtodiffgpefidoaaGreatDoor.P

