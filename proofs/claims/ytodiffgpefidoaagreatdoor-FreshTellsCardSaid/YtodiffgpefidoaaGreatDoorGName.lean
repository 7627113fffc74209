/- Slimmed by wip/slim.py. -/
import Derived.Test.YtodiffgpefidoaaGreatDoorG0
namespace Go.Proofs.YtodiffgpefidoaaGreatDoor.P
open Go.RowKit Go.Proofs.YtodiffgpefidoaaGreatDoorW.PrintWords Go.Proofs.YtodiffgpefidoaaGreatDoorW.PrintLast Go.Proofs.YtodiffgpefidoaaGreatDoorW.PrintMore
attribute [local go_sem] max2_int min2_int max_two min_two max_three min_three max_four min_four
set_option linter.unusedVariables false
set_option linter.unusedSimpArgs false
def name_within.l0 : Nat → Int → List (S101) → Int → Int → Option (Bool)
 | 0, _, _, _, _ => none
 | k + 1, x0, x7, x8, x9 => if x9 < x8 then (if 0 ≤ x9 then (if x9 < (x7.length : Int) then (if x0 ≥ ((rd_T101 x7 x9).f0) then (if x0 ≤ ((rd_T101 x7 x9).f1) then (some true) else (name_within.l0 k x0 x7 x8 (wrap64 (x9 + 1)))) else (name_within.l0 k x0 x7 x8 (wrap64 (x9 + 1)))) else (none)) else (none)) else (some false)
def name_within.f (k : Nat) (a0 : Int) (l1 : List (S101)) : Option (Bool) := name_within.l0 k a0 l1 (l1.length : Int) 0
set_option maxHeartbeats 8000000 in
set_option maxRecDepth 100000 in
theorem name_within.calls (k : Nat) (a0 : Int) (A1 : Option Addr) (c1 : Nat) (l1 : List (S101)) (r : Bool) (w : World) (hr1 : Kd.C k101 w A1 l1.length l1) (hc1 : l1.length ≤ c1) (h : name_within.f k a0 l1 = some r) :
  Calls Tryz.prog 85 #[.int .i32 a0, .slice A1 l1.length c1] w fun e w' => e = .returned (.bool r) ∧ Below w.heap.size w w' := by
 have hu101 := Tryz.underlying101
 have HR1 := Aside0.mk hr1
 have HC1 := Aside0.mk hc1
 clear hr1 hc1
 have HB := Aside0.mk (Below.refl w.heap.size w)
 unfold name_within.f at h
 have H := h
 clear h
 have H' := Aside0.mk H
 clear H
 go_enter Tryz.func85, Tryz.ntmps85
 go_wp2
 go_loopg [9] k (fun kq v9 w' => ∃ (x9_1 : Int), v9 = .int .i64 x9_1 ∧ Aside0 (name_within.l0 kq a0 l1 (l1.length : Int) x9_1 = some r) ∧ Aside0 (kq ≤ k) ∧ Aside0 (Below w.heap.size w w'))
 case atStart => exact ⟨(0), es_, H', ⟨Nat.le_refl _⟩, ⟨bl_⟩⟩
 case round =>
  clear H'
  try clear c1
  try clear p2
  obtain ⟨x9_1, rfl, HA, HK1, HB⟩ := hrel
  cases gk with
  | zero => exact absurd HA.out (by simp [name_within.l0])
  | succ k1 =>
   have H := HA.out
   clear HA
   simp only [name_within.l0] at H
   by_cases c3 : x9_1 < (l1.length : Int)
   ·rw [if_pos c3] at H
    have c3b0 : decide (x9_1 < (l1.length : Int)) = true := decide_eq_true c3
    clear c3
    by_cases c4 : 0 ≤ x9_1
    ·rw [if_pos c4] at H
     have c4b0 : decide (0 ≤ x9_1) = true := decide_eq_true c4
     clear c4
     have c5 : x9_1 < (l1.length : Int) := (by first | exact of_decide_eq_true c3b0 | exact of_eq_true c3b0)
     rw [if_pos c5] at H
     clear c5
     by_cases c6 : a0 ≥ ((rd_T101 l1 x9_1).f0)
     ·rw [if_pos c6] at H
      have c6b0 : decide (((rd_T101 l1 x9_1).f0) ≤ a0) = true := decide_eq_true c6
      clear c6
      by_cases c7 : a0 ≤ ((rd_T101 l1 x9_1).f1)
      ·rw [if_pos c7] at H
       have c7b0 : decide (a0 ≤ ((rd_T101 l1 x9_1).f1)) = true := decide_eq_true c7
       clear c7
       obtain rfl := Option.some.inj H
       have p143 : 0 ≤ (x9_1 : Int) := of_decide_eq_true (by first | (with_reducible assumption) | assumption)
       have q143 : x9_1 < (l1.length : Int) := of_decide_eq_true (by first | (with_reducible assumption) | assumption)
       obtain ⟨ad143, e143, hx143_0, hx143_1⟩ := at_T101 HR1.out x9_1 p143 q143
       cases e143
       replace hx143_0 := (HB.out.cell (World.block_lt_of_cell? w _ hx143_0)).trans hx143_0
       replace hx143_1 := (HB.out.cell (World.block_lt_of_cell? w _ hx143_1)).trans hx143_1
       replace p143 := eq_true p143
       replace q143 := eq_true q143
       go_wp2_with (first | ((with_reducible refine gate_dst (N := 6) rfl ?_); refine box_event ?hg (N := 6) ?hd (cs := #[.int .i32 0, .int .i32 0]) (t := 101) ?hr ?_; (case hd => rfl); (case hg => rfl); (case hr => first | (go_simp; done) | (go_simp; rfl)); intro gb144 hg w8 hbox hb; have n0_ := Aside0.mk (below_step bl_ hb); have n1_ := Aside0.mk (hbox); have n2_ := Aside0.mk ((by rw [hg]; exact (below_size bl_) : w.heap.size ≤ gb144)); have n3_ := Aside0.mk ((by rw [hg]; exact (below_size bl_) : w.heap.size ≤ gb144)); clear HB; have HB := n0_; have BK144 := n1_; have GW144 := n2_; have GE144 := n3_; clear n0_ n1_ n2_ n3_; clear hb hbox hg; have hcz9_0 : w8.cell? ⟨gb144, 0, none⟩ = some (.int .i32 0) := (blk_cell BK144.out 0).trans rfl; have hcz9_1 : w8.cell? ⟨gb144, 1, none⟩ = some (.int .i32 0) := (blk_cell BK144.out 1).trans rfl; have hfz9_0 := blk_frozen BK144.out 0; have hfz9_1 := blk_frozen BK144.out 1))
       go_ret
       exact ⟨eq_, bl_⟩
      ·rw [if_neg c7] at H
       have c7b0 : decide (a0 ≤ ((rd_T101 l1 x9_1).f1)) = false := decide_eq_false c7
       clear c7
       have H' := Aside0.mk H
       clear H
       have p143 : 0 ≤ (x9_1 : Int) := of_decide_eq_true (by first | (with_reducible assumption) | assumption)
       have q143 : x9_1 < (l1.length : Int) := of_decide_eq_true (by first | (with_reducible assumption) | assumption)
       obtain ⟨ad143, e143, hx143_0, hx143_1⟩ := at_T101 HR1.out x9_1 p143 q143
       cases e143
       replace hx143_0 := (HB.out.cell (World.block_lt_of_cell? w _ hx143_0)).trans hx143_0
       replace hx143_1 := (HB.out.cell (World.block_lt_of_cell? w _ hx143_1)).trans hx143_1
       replace p143 := eq_true p143
       replace q143 := eq_true q143
       go_wp2_with (first | ((with_reducible refine gate_dst (N := 6) rfl ?_); refine box_event ?hg (N := 6) ?hd (cs := #[.int .i32 0, .int .i32 0]) (t := 101) ?hr ?_; (case hd => rfl); (case hg => rfl); (case hr => first | (go_simp; done) | (go_simp; rfl)); intro gb144 hg w10 hbox hb; have n0_ := Aside0.mk (below_step bl_ hb); have n1_ := Aside0.mk (hbox); have n2_ := Aside0.mk ((by rw [hg]; exact (below_size bl_) : w.heap.size ≤ gb144)); have n3_ := Aside0.mk ((by rw [hg]; exact (below_size bl_) : w.heap.size ≤ gb144)); clear HB; have HB := n0_; have BK144 := n1_; have GW144 := n2_; have GE144 := n3_; clear n0_ n1_ n2_ n3_; clear hb hbox hg; have hcz11_0 : w10.cell? ⟨gb144, 0, none⟩ = some (.int .i32 0) := (blk_cell BK144.out 0).trans rfl; have hcz11_1 : w10.cell? ⟨gb144, 1, none⟩ = some (.int .i32 0) := (blk_cell BK144.out 1).trans rfl; have hfz11_0 := blk_frozen BK144.out 0; have hfz11_1 := blk_frozen BK144.out 1))
       go_roundg k1
       case measure => have := HK1.out; omega
       case rel => exact ⟨(wrap64 (x9_1 + 1)), es_, H', ⟨by have := HK1.out; omega⟩, ⟨bl_⟩⟩
     ·rw [if_neg c6] at H
      have c6b0 : decide (((rd_T101 l1 x9_1).f0) ≤ a0) = false := decide_eq_false c6
      clear c6
      have H' := Aside0.mk H
      clear H
      have p143 : 0 ≤ (x9_1 : Int) := of_decide_eq_true (by first | (with_reducible assumption) | assumption)
      have q143 : x9_1 < (l1.length : Int) := of_decide_eq_true (by first | (with_reducible assumption) | assumption)
      obtain ⟨ad143, e143, hx143_0, hx143_1⟩ := at_T101 HR1.out x9_1 p143 q143
      cases e143
      replace hx143_0 := (HB.out.cell (World.block_lt_of_cell? w _ hx143_0)).trans hx143_0
      replace hx143_1 := (HB.out.cell (World.block_lt_of_cell? w _ hx143_1)).trans hx143_1
      replace p143 := eq_true p143
      replace q143 := eq_true q143
      go_wp2_with (first | ((with_reducible refine gate_dst (N := 6) rfl ?_); refine box_event ?hg (N := 6) ?hd (cs := #[.int .i32 0, .int .i32 0]) (t := 101) ?hr ?_; (case hd => rfl); (case hg => rfl); (case hr => first | (go_simp; done) | (go_simp; rfl)); intro gb144 hg w12 hbox hb; have n0_ := Aside0.mk (below_step bl_ hb); have n1_ := Aside0.mk (hbox); have n2_ := Aside0.mk ((by rw [hg]; exact (below_size bl_) : w.heap.size ≤ gb144)); have n3_ := Aside0.mk ((by rw [hg]; exact (below_size bl_) : w.heap.size ≤ gb144)); clear HB; have HB := n0_; have BK144 := n1_; have GW144 := n2_; have GE144 := n3_; clear n0_ n1_ n2_ n3_; clear hb hbox hg; have hcz13_0 : w12.cell? ⟨gb144, 0, none⟩ = some (.int .i32 0) := (blk_cell BK144.out 0).trans rfl; have hcz13_1 : w12.cell? ⟨gb144, 1, none⟩ = some (.int .i32 0) := (blk_cell BK144.out 1).trans rfl; have hfz13_0 := blk_frozen BK144.out 0; have hfz13_1 := blk_frozen BK144.out 1))
      go_roundg k1
      case measure => have := HK1.out; omega
      case rel => exact ⟨(wrap64 (x9_1 + 1)), es_, H', ⟨by have := HK1.out; omega⟩, ⟨bl_⟩⟩
    ·rw [if_neg c4] at H
     exact absurd H (by simp)
   ·rw [if_neg c3] at H
    have c3b0 : decide (x9_1 < (l1.length : Int)) = false := decide_eq_false c3
    clear c3
    obtain rfl := Option.some.inj H
    go_wp2
    go_ret
    exact ⟨eq_, bl_⟩
def name_letter.f (k : Nat) (a0 : Int) : Option (Bool) := (name_within.f k a0 (([(⟨97, 122⟩ : S101), (⟨48, 57⟩ : S101), (⟨45, 45⟩ : S101), (⟨223, 246⟩ : S101), (⟨248, 255⟩ : S101), (⟨945, 969⟩ : S101), (⟨1072, 1103⟩ : S101)] : List (S101)))).bind fun t148 => (some t148)
set_option maxHeartbeats 8000000 in
set_option maxRecDepth 100000 in
theorem name_letter.calls (k : Nat) (a0 : Int) (r : Bool) (w : World) (h : name_letter.f k a0 = some r) :
  Calls Tryz.prog 50 #[.int .i32 a0] w fun e w' => e = .returned (.bool r) ∧ Below w.heap.size w w' := by
 have hu101 := Tryz.underlying101
 have HB := Aside0.mk (Below.refl w.heap.size w)
 unfold name_letter.f at h
 have H := h
 clear h
 obtain ⟨y145, hy145⟩ : ∃ y_ : List (S101), y_ = (([(⟨97, 122⟩ : S101), (⟨48, 57⟩ : S101), (⟨45, 45⟩ : S101), (⟨223, 246⟩ : S101), (⟨248, 255⟩ : S101), (⟨945, 969⟩ : S101), (⟨1072, 1103⟩ : S101)] : List (S101))) := ⟨_, rfl⟩
 replace H : ((name_within.f k a0 y145).bind fun t148 => (some t148)) = some r := by first | (rw [hy145]; with_reducible exact H) | (have H2_ := (Option.bind_some _ _).symm.trans H; rw [hy145]; with_reducible exact H2_) | (have H2_ := (Option.bind_some _ _).symm.trans H; with_reducible exact H2_) | with_reducible exact H | (rw [hy145]; exact H) | exact H
 have Ny145 := Aside0.mk hy145
 clear hy145
 replace H := Option.bind_eq_some_iff.mp H
 obtain ⟨t148, A20, H⟩ := H
 try dsimp only at H
 have A2 := Aside0.mk A20
 clear A20
 obtain rfl := Option.some.inj H
 go_enter Tryz.func50, Tryz.ntmps50
 go_wp2_with (first | ((with_reducible refine gate_dst (N := 11) rfl ?_); refine Kd.R_lit k101 _ 101 ?hg (N := 11) ?hd (xs := ([(⟨97, 122⟩ : S101), (⟨48, 57⟩ : S101), (⟨45, 45⟩ : S101), (⟨223, 246⟩ : S101), (⟨248, 255⟩ : S101), (⟨945, 969⟩ : S101), (⟨1072, 1103⟩ : S101)] : List (S101))) (inner := [.int .i32 97, .int .i32 122, .int .i32 48, .int .i32 57, .int .i32 45, .int .i32 45, .int .i32 223, .int .i32 246, .int .i32 248, .int .i32 255, .int .i32 945, .int .i32 969, .int .i32 1072, .int .i32 1103]) (ok := fun _ => True) (okp := fun _ => True) ?hr ?hp (fun _ hk => hk) trivial (Below.refl _ _) (Nat.le_refl _) (by simp) ?_; (case hd => rfl); (case hg => rfl); (case hr => first | (go_simp; done) | (go_simp; rfl)); (case hp => exact (Reps.c2 (show Kd.M k101 _ _ _ (⟨97, 122⟩ : S101) [.int .i32 97, .int .i32 122] from (k101_mkM _ _ _ (⟨97, 122⟩ : S101) )) (Reps.c2 (show Kd.M k101 _ _ _ (⟨48, 57⟩ : S101) [.int .i32 48, .int .i32 57] from (k101_mkM _ _ _ (⟨48, 57⟩ : S101) )) (Reps.c2 (show Kd.M k101 _ _ _ (⟨45, 45⟩ : S101) [.int .i32 45, .int .i32 45] from (k101_mkM _ _ _ (⟨45, 45⟩ : S101) )) (Reps.c2 (show Kd.M k101 _ _ _ (⟨223, 246⟩ : S101) [.int .i32 223, .int .i32 246] from (k101_mkM _ _ _ (⟨223, 246⟩ : S101) )) (Reps.c2 (show Kd.M k101 _ _ _ (⟨248, 255⟩ : S101) [.int .i32 248, .int .i32 255] from (k101_mkM _ _ _ (⟨248, 255⟩ : S101) )) (Reps.c2 (show Kd.M k101 _ _ _ (⟨945, 969⟩ : S101) [.int .i32 945, .int .i32 969] from (k101_mkM _ _ _ (⟨945, 969⟩ : S101) )) (Reps.c2 (show Kd.M k101 _ _ _ (⟨1072, 1103⟩ : S101) [.int .i32 1072, .int .i32 1103] from (k101_mkM _ _ _ (⟨1072, 1103⟩ : S101) )) (Reps.none _ _))))))))); intro v146 w3 ho4 hb hg_ hnew_; clear hg_ hnew_; (first | rw [← Ny145.out] at ho4 | (simp only [Int.reduceToNat] at ho4; rw [← Ny145.out] at ho4)); have n0_ := Aside0.mk (Kd.R_lower ho4 (below_size bl_)); have n1_ := Aside0.mk (below_step bl_ hb); clear HB; have HO147 := n0_; have HB := n1_; clear n0_ n1_; clear hb ho4; obtain ⟨Ao5, co5, eo5⟩ := Kd.R_slice HO147.out; subst eo5) | ((with_reducible refine gate_callee (f := 85) rfl ?_); refine gL (some 12) Tryz.func85 #[.int .i32 a0, .slice Ao5 y145.length co5] rfl ?_; (with_reducible refine (name_within.calls k a0 _ _ y145 t148 _ ?side1 ?side2 A2.out).mono ?_); (case side1 => repeat (first | exact (Kd.R_reads' HO147.out).2.2 | (with_reducible refine Kd.C_alloc ?_ _) | (with_reducible refine Kd.C_drewN ?_ _) | (with_reducible refine Kd.C_drew ?_))); (case side2 => exact (Kd.R_reads' HO147.out).2.1); rintro e w6 ⟨rfl, hb⟩; refine ⟨_, rfl, ?_⟩; have n0_ := Aside0.mk (Kd.R_below (by (with_reducible repeat (first | apply Kd.R_alloc | apply Kd.R_drewN | apply Kd.R_drew)); exact HO147.out) hb); have n1_ := Aside0.mk (below_step bl_ hb); clear HO147; clear HB; have HO147 := n0_; have HB := n1_; clear n0_ n1_; (try clear hb)))
 go_ret
 exact ⟨eq_, bl_⟩
end Go.Proofs.YtodiffgpefidoaaGreatDoor.P

