/- Slimmed by wip/slim.py. -/
import Derived.Test.YtodiffgpefidoaaGreatDoorG0
import Derived.Test.YtodiffgpefidoaaGreatDoorGFresh
import Derived.Test.YtodiffgpefidoaaGreatDoorGWire
import Derived.Test.YtodiffgpefidoaaGreatDoorXTerm
import Derived.Test.YtodiffgpefidoaaGreatDoorXTree
namespace Go.Proofs.YtodiffgpefidoaaGreatDoor.P
open Go.RowKit Go.Proofs.YtodiffgpefidoaaGreatDoorW.PrintWords Go.Proofs.YtodiffgpefidoaaGreatDoorW.PrintLast Go.Proofs.YtodiffgpefidoaaGreatDoorW.PrintMore
attribute [local go_sem] max2_int min2_int max_two min_two max_three min_three max_four min_four
set_option linter.unusedVariables false
set_option linter.unusedSimpArgs false
theorem fresh_Take.far5 {w : World} {g : Nat} {a : Addr} (h : a.block ≠ g) (v0 v1 v2 v3 v4 : Value) : (((((w.setCell ⟨g, 0, none⟩ v0).setCell ⟨g, 1, none⟩ v1).setCell ⟨g, 2, none⟩ v2).setCell ⟨g, 3, none⟩ v3).setCell ⟨g, 4, none⟩ v4).cell? a = w.cell? a :=
 (cell_far (p := ⟨g, 4, none⟩) h _).trans ((cell_far (p := ⟨g, 3, none⟩) h _).trans ((cell_far (p := ⟨g, 2, none⟩) h _).trans ((cell_far (p := ⟨g, 1, none⟩) h _).trans (cell_far (p := ⟨g, 0, none⟩) h _))))
set_option maxHeartbeats 8000000 in
set_option maxRecDepth 100000 in
theorem fresh_Take.store5 (ev : Operand → Value) (o : Oper) (p v : Operand) (ho : o.op = .store 24 p v) (w : World) (g : Nat) (a : ByteArray) (b c : Int) (d e : ByteArray) (hp : ev p = .pointer (some ⟨g, 0, none⟩)) (hv : ev v = .agg #[.string a, .int .u64 b, .int .i64 c, .string d, .string e])
  (h : w.heap[g]? = some (.cells #[.string (⟨#[]⟩ : ByteArray), .int .u64 0, .int .i64 0, .string (⟨#[]⟩ : ByteArray), .string (⟨#[]⟩ : ByteArray)] 24 (0, 0))) :
  (execOp ev o).run Tryz.prog w = .ok .skip (((((w.setCell ⟨g, 0, none⟩ (.string a)).setCell ⟨g, 1, none⟩ (.int .u64 b)).setCell ⟨g, 2, none⟩ (.int .i64 c)).setCell ⟨g, 3, none⟩ (.string d)).setCell ⟨g, 4, none⟩ (.string e)) := by
 obtain ⟨dst, op, ty, pos, aft, gd⟩ := o
 simp only at ho
 subst ho
 have hu24 := Tryz.underlying24
 have hs27 : w.cell? ⟨g, 0, none⟩ = some (.string (⟨#[]⟩ : ByteArray)) := (blk_cell h 0).trans rfl
 have hfs27 := blk_frozen h 0
 have hs28 : w.cell? ⟨g, 1, none⟩ = some (.int .u64 0) := (blk_cell h 1).trans rfl
 have hfs28 := blk_frozen h 1
 have hs29 : w.cell? ⟨g, 2, none⟩ = some (.int .i64 0) := (blk_cell h 2).trans rfl
 have hfs29 := blk_frozen h 2
 have hs30 : w.cell? ⟨g, 3, none⟩ = some (.string (⟨#[]⟩ : ByteArray)) := (blk_cell h 3).trans rfl
 have hfs30 := blk_frozen h 3
 have hs31 : w.cell? ⟨g, 4, none⟩ = some (.string (⟨#[]⟩ : ByteArray)) := (blk_cell h 4).trans rfl
 have hfs31 := blk_frozen h 4
 clear h
 go_simp
mutual
def fresh_Take.j0 : Nat → List ByteArray → Bool → Option (ByteArray × Int × Int × ByteArray × ByteArray × Int)
 | 0, _, _ => none
 | k + 1, x4, x22 => if x22 = true then (some ((⟨#[]⟩ : ByteArray), 0, 0, (⟨#[]⟩ : ByteArray), (⟨#[]⟩ : ByteArray), 2)) else (if 1 < (x4.length : Int) then ((fresh_number.f (rdOf ByteArray.empty x4 1)).bind fun bt217 => (if 2 < (x4.length : Int) then ((fresh_number.f (rdOf ByteArray.empty x4 2)).bind fun bt220 => (if 0 < (x4.length : Int) then (if 3 < (x4.length : Int) then (if 4 < (x4.length : Int) then (if bt217.2 = true then (if bt220.2 = true then ((fresh_Right.f k (rdOf ByteArray.empty x4 0) bt217.1 (wrap64 (mn bt220.1 9)) (rdOf ByteArray.empty x4 3) (rdOf ByteArray.empty x4 4)).bind fun t226 => (fresh_Take.j1 k (!t226) (rdOf ByteArray.empty x4 0) bt217.1 (wrap64 (mn bt220.1 9)) (rdOf ByteArray.empty x4 3) (rdOf ByteArray.empty x4 4))) else (fresh_Take.j1 k true (rdOf ByteArray.empty x4 0) bt217.1 (wrap64 (mn bt220.1 9)) (rdOf ByteArray.empty x4 3) (rdOf ByteArray.empty x4 4))) else (fresh_Take.j1 k true (rdOf ByteArray.empty x4 0) bt217.1 (wrap64 (mn bt220.1 9)) (rdOf ByteArray.empty x4 3) (rdOf ByteArray.empty x4 4))) else (none)) else (none)) else (none))) else (none))) else (none))
def fresh_Take.j1 : Nat → Bool → ByteArray → Int → Int → ByteArray → ByteArray → Option (ByteArray × Int × Int × ByteArray × ByteArray × Int)
 | 0, _, _, _, _, _, _ => none
 | k + 1, x62, x226000, x226001, x226002, x226003, x226004 => if x62 = true then (some ((⟨#[]⟩ : ByteArray), 0, 0, (⟨#[]⟩ : ByteArray), (⟨#[]⟩ : ByteArray), 2)) else (some (x226000, x226001, x226002, x226003, x226004, 0))
end
def fresh_Take.f (k : Nat) (a0 : ByteArray) : Option (ByteArray × Int × Int × ByteArray × ByteArray × Int) := (wire_TakeAll.f k a0 5 4000).bind fun bt212 => (if bt212.2 = 0 then (fresh_Take.j0 k bt212.1 ((bt212.1.length : Int) != 5)) else (fresh_Take.j0 k bt212.1 true))
def fresh_Take.T6 : Bool × List (List Nat × List Nat) := (true, [([], []), ([0], [0]), ([1], [1]), ([], []), ([], []), ([4], [4]), ([5], [5]), ([], []), ([7], [7]), ([8], [8]), ([], []), ([10], [10]), ([11], [11]), ([2, 3, 6, 9, 12], [2, 3, 6, 9, 12]), ([], []), ([14, 13, 0, 1, 2, 3, 4, 5, 6, 7, 8, 9, 10, 11, 12, 13, 14], [13, 14])])
def fresh_Take.B6 : List Nat := [0, 1, 3, 0, 0, 16, 48, 0, 128, 384, 0, 1024, 3072, 8191, 0, 32767]
theorem fresh_Take.tab6 : rtab .any (opsOf Tryz.f11 6) = fresh_Take.T6 := by kernel_rfl
theorem fresh_Take.bits6 : waitsOk fresh_Take.T6.2 fresh_Take.B6 = true := by kernel_rfl
set_option maxHeartbeats 8000000 in
set_option maxRecDepth 100000 in
theorem fresh_Take.calls (k : Nat) (a0 : ByteArray) (r1 : ByteArray) (r2 : Int) (r3 : Int) (r4 : ByteArray) (r5 : ByteArray) (r6 : Int) (w : World) (h : fresh_Take.f k a0 = some (r1, r2, r3, r4, r5, r6)) (hV : Laid8 w) :
  Calls Tryz.prog 11 #[.string a0] w fun e w' => e = .returned (.tuple #[.agg #[.string r1, .int .u64 r2, .int .i64 r3, .string r4, .string r5], .int .i64 r6]) ∧ Below w.heap.size w w' := by
 have HV := Aside0.mk hV
 clear hV
 have hu24 := Tryz.underlying24
 have HB := Aside0.mk (Below.refl w.heap.size w)
 unfold fresh_Take.f at h
 have H := h
 clear h
 replace H := Option.bind_eq_some_iff.mp H
 obtain ⟨⟨t212, t213⟩, A20, H⟩ := H
 try dsimp only at H
 have A2 := Aside0.mk A20
 clear A20
 have HC3 := Aside0.mk H
 clear H
 go_enter Tryz.func11, Tryz.ntmps11
 go_upto_region 2 with (first | ((with_reducible refine gate_dst (N := 2) rfl ?_); (try (refine gate_guard (by rfl) ?_; dsimp only)); refine box_event ?hg (N := 2) ?hd (cs := #[.string (⟨#[]⟩ : ByteArray), .int .u64 0, .int .i64 0, .string (⟨#[]⟩ : ByteArray), .string (⟨#[]⟩ : ByteArray)]) (t := 24) ?hr ?_; (case hd => rfl); (case hg => rfl); (case hr => first | (go_simp; done) | (go_simp; rfl)); intro gb211 hg w4 hbox hb; have n0_ := Aside0.mk (below_step bl_ hb); have n1_ := Aside0.mk (hbox); have n2_ := Aside0.mk ((by rw [hg]; exact (below_size bl_) : w.heap.size ≤ gb211)); have n3_ := Aside0.mk ((by rw [hg]; exact (below_size bl_) : w.heap.size ≤ gb211)); clear HB; have HB := n0_; have BK211 := n1_; have GW211 := n2_; have GE211 := n3_; clear n0_ n1_ n2_ n3_; clear hb hbox hg) | ((with_reducible refine gate_callee (f := 37) rfl ?_); refine gL (some 13) Tryz.func37 #[.string a0, .int .i64 5, .int .i64 4000] rfl ?_; (with_reducible refine (wire_TakeAll.calls k a0 5 4000 t212 t213 _ A2.out).mono ?_); rintro e w5 ⟨v214, rfl, ho0, hb⟩; refine ⟨_, rfl, ?_⟩; have n0_ := Aside0.mk (Kd.R_lower ho0 (below_size bl_)); have n1_ := Aside0.mk (blk_below (g := gb211) (o := .cells #[.string (⟨#[]⟩ : ByteArray), .int .u64 0, .int .i64 0, .string (⟨#[]⟩ : ByteArray), .string (⟨#[]⟩ : ByteArray)] 24 (0, 0)) kl_ hb); have n2_ := Aside0.mk (below_step bl_ hb); clear BK211; clear HB; have HO215 := n0_; have BK211 := n1_; have HB := n2_; clear n0_ n1_ n2_; (try clear hb); (try clear ho0)))
 (try simp only [Act.put, List.setIfInBounds_toArray, List.set_cons_zero, List.set_cons_succ])
 go_cut [22] (fun v22 wc => ∃ (kq : Nat) (x22_2 : Bool), v22 = .bool x22_2 ∧ Aside0 (fresh_Take.j0 kq t212 x22_2 = some (r1, r2, r3, r4, r5, r6)) ∧ Aside0 (kq ≤ k) ∧ Aside0 (Kd.R Kd.string 9 wc w.heap.size (fun _ => True) v214 t212) ∧ Aside0 (wc.heap[gb211]? = some (.cells #[.string (⟨#[]⟩ : ByteArray), .int .u64 0, .int .i64 0, .string (⟨#[]⟩ : ByteArray), .string (⟨#[]⟩ : ByteArray)] 24 (0, 0))) ∧ Aside0 (Below w.heap.size w wc))
 case first =>
  have H := HC3.out
  clear HC3
  by_cases c6 : t213 = 0
  ·rw [if_pos c6] at H
   have c6b0 : (t213 == 0) = true := beq_iff_eq.mpr c6
   have c6b1 : (t213 != 0) = false := bne_eq_false_iff_eq.mpr c6
   clear c6
   (first | rw [c6b0] | (simp only [i64_w, i32_w]; rw [c6b0]) | rw [c6b1] | skip)
   have H' := Aside0.mk H
   clear H
   obtain ⟨Ao7, co7, eo7⟩ := Kd.R_slice HO215.out
   subst eo7
   go_wp2
   go_meet
   case rel => exact ⟨_, (((t212.length : Int) != 5)), es_, H', ⟨by first | omega | exact Nat.le_refl _⟩, ⟨by (with_reducible repeat (first | apply Kd.R_alloc | apply Kd.R_drewN | apply Kd.R_drew)); exact HO215.out⟩, ⟨kl_⟩, ⟨bl_⟩⟩
  ·rw [if_neg c6] at H
   have c6b0 : (t213 == 0) = false := beq_eq_false_iff_ne.mpr c6
   have c6b1 : (t213 != 0) = true := bne_iff_ne.mpr c6
   (first | rw [c6b0] | (simp only [i64_w, i32_w]; rw [c6b0]) | rw [c6b1] | skip)
   have H' := Aside0.mk H
   clear H
   go_wp2
   go_meet
   case rel => exact ⟨_, (true), es_, H', ⟨by first | omega | exact Nat.le_refl _⟩, ⟨by (with_reducible repeat (first | apply Kd.R_alloc | apply Kd.R_drewN | apply Kd.R_drew)); exact HO215.out⟩, ⟨kl_⟩, ⟨bl_⟩⟩
 case rest =>
  clear HC3
  try clear c1
  try clear p2
  try clear c3
  try clear c6
  try clear c6b0
  try clear c6b1
  obtain ⟨kq, x22_2, rfl, HA, HJ2, HO_4, BK211, HB⟩ := hcut
  cases kq with
  | zero => exact absurd HA.out (by simp [fresh_Take.j0])
  | succ kj2 =>
   have H := HA.out
   clear HA
   simp only [fresh_Take.j0] at H
   by_cases c8 : x22_2 = true
   ·subst c8
    rw [if_pos rfl] at H
    simp only [Option.some.injEq, Prod.mk.injEq] at H
    obtain ⟨rfl, rfl, rfl, rfl, rfl, rfl⟩ := H
    have hcz9_0 : wc.cell? ⟨gb211, 0, none⟩ = some (.string (⟨#[]⟩ : ByteArray)) := (blk_cell BK211.out 0).trans rfl
    have hcz9_1 : wc.cell? ⟨gb211, 1, none⟩ = some (.int .u64 0) := (blk_cell BK211.out 1).trans rfl
    have hcz9_2 : wc.cell? ⟨gb211, 2, none⟩ = some (.int .i64 0) := (blk_cell BK211.out 2).trans rfl
    have hcz9_3 : wc.cell? ⟨gb211, 3, none⟩ = some (.string (⟨#[]⟩ : ByteArray)) := (blk_cell BK211.out 3).trans rfl
    have hcz9_4 : wc.cell? ⟨gb211, 4, none⟩ = some (.string (⟨#[]⟩ : ByteArray)) := (blk_cell BK211.out 4).trans rfl
    have hfz9_0 := blk_frozen BK211.out 0
    have hfz9_1 := blk_frozen BK211.out 1
    have hfz9_2 := blk_frozen BK211.out 2
    have hfz9_3 := blk_frozen BK211.out 3
    have hfz9_4 := blk_frozen BK211.out 4
    go_wp2
    refine bodyPost_ret (results_ct rfl _ _ gb211 24 #[.string (⟨#[]⟩ : ByteArray), .int .u64 0, .int .i64 0, .string (⟨#[]⟩ : ByteArray), .string (⟨#[]⟩ : ByteArray)] (0, 0) _ rfl (by (with_reducible repeat (first | refine blk_drewN ?_ _ | refine blk_drew ?_ | refine blk_alloc ?_ _)); refine blk_put (cs := #[.string (⟨#[]⟩ : ByteArray), .int .u64 0, .int .i64 0, .string (⟨#[]⟩ : ByteArray), .string (⟨#[]⟩ : ByteArray)]) ?_ 4 _ rfl; (with_reducible repeat (first | refine blk_drewN ?_ _ | refine blk_drew ?_ | refine blk_alloc ?_ _)); refine blk_put (cs := #[.string (⟨#[]⟩ : ByteArray), .int .u64 0, .int .i64 0, .string (⟨#[]⟩ : ByteArray), .string (⟨#[]⟩ : ByteArray)]) ?_ 3 _ rfl; (with_reducible repeat (first | refine blk_drewN ?_ _ | refine blk_drew ?_ | refine blk_alloc ?_ _)); refine blk_put (cs := #[.string (⟨#[]⟩ : ByteArray), .int .u64 0, .int .i64 0, .string (⟨#[]⟩ : ByteArray), .string (⟨#[]⟩ : ByteArray)]) ?_ 2 _ rfl; (with_reducible repeat (first | refine blk_drewN ?_ _ | refine blk_drew ?_ | refine blk_alloc ?_ _)); refine blk_put (cs := #[.string (⟨#[]⟩ : ByteArray), .int .u64 0, .int .i64 0, .string (⟨#[]⟩ : ByteArray), .string (⟨#[]⟩ : ByteArray)]) ?_ 1 _ rfl; (with_reducible repeat (first | refine blk_drewN ?_ _ | refine blk_drew ?_ | refine blk_alloc ?_ _)); refine blk_put (cs := #[.string (⟨#[]⟩ : ByteArray), .int .u64 0, .int .i64 0, .string (⟨#[]⟩ : ByteArray), .string (⟨#[]⟩ : ByteArray)]) ?_ 0 _ rfl; (with_reducible repeat (first | refine blk_drewN ?_ _ | refine blk_drew ?_ | refine blk_alloc ?_ _)); exact BK211.out) Tryz.underlying24 rfl (by kernel_rfl)) rfl ?_
    exact ⟨eq_, bl_⟩
   ·replace c8 := Bool.eq_false_iff.mpr c8
    subst c8
    rw [if_neg (show ¬ (false = true) by decide)] at H
    by_cases c10 : 1 < (t212.length : Int)
    ·rw [if_pos c10] at H
     have c10b0 : decide (1 < (t212.length : Int)) = true := decide_eq_true c10
     have c10b1 : decide (1 < t212.length) = true := decide_eq_true (by omega)
     clear c10
     replace H := Option.bind_eq_some_iff.mp H
     obtain ⟨⟨t217, t218⟩, A110, H⟩ := H
     try dsimp only at H
     have A11 := Aside0.mk A110
     clear A110
     by_cases c12 : 2 < (t212.length : Int)
     ·rw [if_pos c12] at H
      have c12b0 : decide (2 < (t212.length : Int)) = true := decide_eq_true c12
      have c12b1 : decide (2 < t212.length) = true := decide_eq_true (by omega)
      clear c12
      replace H := Option.bind_eq_some_iff.mp H
      obtain ⟨⟨t220, t221⟩, A130, H⟩ := H
      try dsimp only at H
      have A13 := Aside0.mk A130
      clear A130
      by_cases c14 : 0 < (t212.length : Int)
      ·rw [if_pos c14] at H
       have c14b0 : decide (0 < (t212.length : Int)) = true := decide_eq_true c14
       have c14b1 : decide (0 < t212.length) = true := decide_eq_true (by omega)
       clear c14
       obtain ⟨ji15, hji15⟩ : ∃ j_ : Int, (mn t220 9) = j_ := ⟨_, rfl⟩
       replace H : (if 3 < (t212.length : Int) then (if 4 < (t212.length : Int) then (if t218 = true then (if t221 = true then ((fresh_Right.f kj2 (rdOf ByteArray.empty t212 0) t217 (wrap64 (ji15)) (rdOf ByteArray.empty t212 3) (rdOf ByteArray.empty t212 4)).bind fun t226 => (fresh_Take.j1 kj2 (!t226) (rdOf ByteArray.empty t212 0) t217 (wrap64 (ji15)) (rdOf ByteArray.empty t212 3) (rdOf ByteArray.empty t212 4))) else (fresh_Take.j1 kj2 true (rdOf ByteArray.empty t212 0) t217 (wrap64 (ji15)) (rdOf ByteArray.empty t212 3) (rdOf ByteArray.empty t212 4))) else (fresh_Take.j1 kj2 true (rdOf ByteArray.empty t212 0) t217 (wrap64 (ji15)) (rdOf ByteArray.empty t212 3) (rdOf ByteArray.empty t212 4))) else (none)) else (none)) = some (r1, r2, r3, r4, r5, r6) := by first | (rw [hji15] at H; exact H) | (simp only [hji15] at H ⊢; exact H)
       (try rw [hji15] at A11)
       (try rw [hji15] at A13)
       (try (have hji15h : ji15 ≤ 9 := by (rw [← hji15]; unfold mn; (repeat' split) <;> omega)))
       (try (have hji15g : ji15 ≤ 64 := by omega))
       have hji15_ : (if 9 < t220 then 9 else t220) = ji15 := hji15
       by_cases c16 : 3 < (t212.length : Int)
       ·rw [if_pos c16] at H
        have c16b0 : decide (3 < (t212.length : Int)) = true := decide_eq_true c16
        have c16b1 : decide (3 < t212.length) = true := decide_eq_true (by omega)
        clear c16
        by_cases c17 : 4 < (t212.length : Int)
        ·rw [if_pos c17] at H
         have c17b0 : decide (4 < (t212.length : Int)) = true := decide_eq_true c17
         have c17b1 : decide (4 < t212.length) = true := decide_eq_true (by omega)
         clear c17
         have HC18 := Aside0.mk H
         clear H
         obtain ⟨Ao19, co19, eo19⟩ := Kd.R_slice HO_4.out
         subst eo19
         have p216 : 0 ≤ (1 : Int) := (by omega)
         have q216 : 1 < (t212.length : Int) := of_decide_eq_true (by first | (with_reducible assumption) | assumption)
         obtain ⟨ad216, e216, hx216_0⟩ := Kd.at_string (Kd.R_reads' HO_4.out).2.2 1 p216 q216
         cases e216
         (try simp only [show (1 : Int).toNat = 1 from rfl, Nat.reduceMul, Nat.reduceEqDiff, Go.Addr.add, ↓reduceIte] at hx216_0)
         have qi216 : (1 < t212.length) = True := eq_true (by omega)
         (try rw [show ((1 : Int)).toNat = 1 from rfl] at hx216_0)
         replace p216 := eq_true p216
         replace q216 := eq_true q216
         try go_wp2_with (first | ((with_reducible refine gate_callee (f := 38) rfl ?_); refine gL (some 28) Tryz.func38 #[.string (rdOf ByteArray.empty t212 1)] rfl ?_; (with_reducible refine (fresh_number.calls (rdOf ByteArray.empty t212 1) t217 t218 _ A11.out).mono ?_); rintro e w20 ⟨rfl, hb⟩; refine ⟨_, rfl, ?_⟩; have n0_ := Aside0.mk (Kd.R_below (by (with_reducible repeat (first | apply Kd.R_alloc | apply Kd.R_drewN | apply Kd.R_drew)); exact HO_4.out) hb); have n1_ := Aside0.mk (blk_below (g := gb211) (o := .cells #[.string (⟨#[]⟩ : ByteArray), .int .u64 0, .int .i64 0, .string (⟨#[]⟩ : ByteArray), .string (⟨#[]⟩ : ByteArray)] 24 (0, 0)) kl_ hb); have n2_ := Aside0.mk (below_step bl_ hb); clear HO_4; clear BK211; clear HB; have HO_4 := n0_; have BK211 := n1_; have HB := n2_; clear n0_ n1_ n2_; (try clear hb); have p219 : 0 ≤ (2 : Int) := (by omega); have q219 : 2 < (t212.length : Int) := of_decide_eq_true (by first | (with_reducible assumption) | assumption); obtain ⟨ad219, e219, hx219_0⟩ := Kd.at_string (Kd.R_reads' HO_4.out).2.2 2 p219 q219; obtain rfl : ad216 = ad219 := (by injection e219); (try simp only [show (2 : Int).toNat = 2 from rfl, Nat.reduceMul, Nat.reduceEqDiff, Go.Addr.add, ↓reduceIte] at hx219_0); have qi219 : (2 < t212.length) = True := eq_true (by omega); (try rw [show ((2 : Int)).toNat = 2 from rfl] at hx219_0); replace p219 := eq_true p219; replace q219 := eq_true q219) | ((with_reducible refine gate_callee (f := 38) rfl ?_); refine gL (some 35) Tryz.func38 #[.string (rdOf ByteArray.empty t212 2)] rfl ?_; (with_reducible refine (fresh_number.calls (rdOf ByteArray.empty t212 2) t220 t221 _ A13.out).mono ?_); rintro e w21 ⟨rfl, hb⟩; refine ⟨_, rfl, ?_⟩; have n0_ := Aside0.mk (Kd.R_below (by (with_reducible repeat (first | apply Kd.R_alloc | apply Kd.R_drewN | apply Kd.R_drew)); exact HO_4.out) hb); have n1_ := Aside0.mk (blk_below (g := gb211) (o := .cells #[.string (⟨#[]⟩ : ByteArray), .int .u64 0, .int .i64 0, .string (⟨#[]⟩ : ByteArray), .string (⟨#[]⟩ : ByteArray)] 24 (0, 0)) kl_ hb); have n2_ := Aside0.mk (below_step bl_ hb); clear HO_4; clear BK211; clear HB; have HO_4 := n0_; have BK211 := n1_; have HB := n2_; clear n0_ n1_ n2_; (try clear hb)))
         have n0_ := Aside0.mk (Kd.R_drew HO_4.out)
         have n1_ := Aside0.mk (blk_drew BK211.out)
         have n2_ := Aside0.mk (below_drew1 HB.out)
         clear HO_4
         clear BK211
         clear HB
         have HO_4 := n0_
         have BK211 := n1_
         have HB := n2_
         clear n0_ n1_ n2_
         have p222 : 0 ≤ (0 : Int) := (by omega)
         have q222 : 0 < (t212.length : Int) := of_decide_eq_true (by first | (with_reducible assumption) | assumption)
         obtain ⟨ad222, e222, hx222_0⟩ := Kd.at_string (Kd.R_reads' HO_4.out).2.2 0 p222 q222
         obtain rfl : ad216 = ad222 := (by injection e222)
         have qi222 : (0 < t212.length) = True := eq_true (by omega)
         (try rw [show ((0 : Int)).toNat = 0 from rfl] at hx222_0)
         (try rw [Addr.add_zero'] at hx222_0)
         replace p222 := eq_true p222
         replace q222 := eq_true q222
         have p223 : 0 ≤ (3 : Int) := (by omega)
         have q223 : 3 < (t212.length : Int) := of_decide_eq_true (by first | (with_reducible assumption) | assumption)
         obtain ⟨ad223, e223, hx223_0⟩ := Kd.at_string (Kd.R_reads' HO_4.out).2.2 3 p223 q223
         obtain rfl : ad216 = ad223 := (by injection e223)
         (try simp only [show (3 : Int).toNat = 3 from rfl, Nat.reduceMul, Nat.reduceEqDiff, Go.Addr.add, ↓reduceIte] at hx223_0)
         have qi223 : (3 < t212.length) = True := eq_true (by omega)
         (try rw [show ((3 : Int)).toNat = 3 from rfl] at hx223_0)
         replace p223 := eq_true p223
         replace q223 := eq_true q223
         have p224 : 0 ≤ (4 : Int) := (by omega)
         have q224 : 4 < (t212.length : Int) := of_decide_eq_true (by first | (with_reducible assumption) | assumption)
         obtain ⟨ad224, e224, hx224_0⟩ := Kd.at_string (Kd.R_reads' HO_4.out).2.2 4 p224 q224
         obtain rfl : ad216 = ad224 := (by injection e224)
         (try simp only [show (4 : Int).toNat = 4 from rfl, Nat.reduceMul, Nat.reduceEqDiff, Go.Addr.add, ↓reduceIte] at hx224_0)
         have qi224 : (4 < t212.length) = True := eq_true (by omega)
         (try rw [show ((4 : Int)).toNat = 4 from rfl] at hx224_0)
         replace p224 := eq_true p224
         replace q224 := eq_true q224
         refine start_ (n := 16) (S := fun w' => w'.cell? ad216 = some (.string (rdOf ByteArray.empty t212 0)) ∧ w'.cell? ⟨ad216.block, ad216.off + 3, none⟩ = some (.string (rdOf ByteArray.empty t212 3)) ∧ w'.cell? ⟨ad216.block, ad216.off + 4, none⟩ = some (.string (rdOf ByteArray.empty t212 4))) (ds := []) #[false, false, false, false, false, false, false, false, false, false, false, false, false, false, false, false] (by kernel_rfl) rfl rfl ⟨hx222_0, hx223_0, hx224_0⟩ (fun hHeld => ?_); refine with_tabW fresh_Take.tab6 fresh_Take.bits6 (fun HT_ HW_ => ?_)
         generalize w21.drew = w22 at HO_4 BK211 HB hx222_0 hx223_0 hx224_0 hHeld ⊢
         refine pS (i := 0) (N := some 38) (bn 16 1) rfl HT_.out ?_
         refine pS (i := 1) (N := some 39) (bn 16 3) rfl HT_.out ?_
         refine pS (i := 3) (N := some 41) (bn 16 11) rfl HT_.out ?_
         refine pS (i := 4) (N := some 42) (bn 16 27) rfl HT_.out ?_
         refine pS (i := 5) (N := some 43) (bn 16 59) rfl HT_.out ?_
         refine pS (i := 6) (N := some 44) (bn 16 123) rfl HT_.out ?_
         refine pS (i := 7) (N := some 45) (bn 16 251) rfl HT_.out ?_
         refine pS (i := 8) (N := some 46) (bn 16 507) rfl HT_.out ?_
         refine pS (i := 10) (N := some 48) (bn 16 1531) rfl HT_.out ?_
         refine pS (i := 11) (N := some 49) (bn 16 3579) rfl HT_.out ?_
         refine tS (i := 2) (N := some 40) (bn 16 3583) rfl HT_.out HW_.out hHeld (fun w' ⟨s0, s1, s2⟩ => by go_simp; with_reducible rfl) ?_
         refine tS (i := 9) (N := some 47) (bn 16 4095) rfl HT_.out HW_.out hHeld (fun w' ⟨s0, s1, s2⟩ => by go_simp; with_reducible rfl) ?_
         refine tS (i := 12) (N := some 50) (bn 16 8191) rfl HT_.out HW_.out hHeld (fun w' ⟨s0, s1, s2⟩ => by go_simp; with_reducible rfl) ?_
         refine pS (i := 13) (N := some 51) (bn 16 16383) rfl HT_.out ?_
         refine oS (i := 14) (N := some 10) (bn 16 32767) rfl HT_.out (fun K hK => ?_)
         refine box_step ?hg (N := 10) ?hd (cs := #[.string (⟨#[]⟩ : ByteArray), .int .u64 0, .int .i64 0, .string (⟨#[]⟩ : ByteArray), .string (⟨#[]⟩ : ByteArray)]) (t := 24) ?hr ?_; (case hd => rfl); (case hg => rfl); (case hr => first | (go_simp; done) | (go_simp; rfl))
         intro gb225 hg w23 hbox hb
         have HS0_ := (hb.cell (World.block_lt_of_cell? _ _ (hHeld.1))).trans (hHeld.1)
         have HS1_ := (hb.cell (World.block_lt_of_cell? _ _ (hHeld.2.1))).trans (hHeld.2.1)
         have HS2_ := (hb.cell (World.block_lt_of_cell? _ _ (hHeld.2.2))).trans (hHeld.2.2)
         have n0_ := Aside0.mk (Kd.R_below (by (with_reducible repeat (first | apply Kd.R_alloc | apply Kd.R_drewN | apply Kd.R_drew)); exact HO_4.out) hb)
         have n1_ := Aside0.mk (blk_below (g := gb211) (o := .cells #[.string (⟨#[]⟩ : ByteArray), .int .u64 0, .int .i64 0, .string (⟨#[]⟩ : ByteArray), .string (⟨#[]⟩ : ByteArray)] 24 (0, 0)) kl_ hb)
         have n2_ := Aside0.mk (below_step bl_ hb)
         have n3_ := Aside0.mk (hbox)
         have n4_ := Aside0.mk ((by rw [hg]; exact (below_size bl_) : w.heap.size ≤ gb225))
         have n5_ := Aside0.mk ((by rw [hg]; exact (below_size bl_) : w.heap.size ≤ gb225))
         have n6_ := Aside0.mk ((by rw [hg]; exact Nat.ne_of_lt (blk_lt (g := gb211) (o := .cells #[.string (⟨#[]⟩ : ByteArray), .int .u64 0, .int .i64 0, .string (⟨#[]⟩ : ByteArray), .string (⟨#[]⟩ : ByteArray)] 24 (0, 0)) kl_) : gb211 ≠ gb225))
         have n7_ := Aside0.mk ((by rw [hg]; exact Nat.ne_of_gt (blk_lt (g := gb211) (o := .cells #[.string (⟨#[]⟩ : ByteArray), .int .u64 0, .int .i64 0, .string (⟨#[]⟩ : ByteArray), .string (⟨#[]⟩ : ByteArray)] 24 (0, 0)) kl_) : gb225 ≠ gb211))
         clear HO_4
         clear BK211
         clear HB
         have HO_4 := n0_
         have BK211 := n1_
         have HB := n2_
         have BK225 := n3_
         have GW225 := n4_
         have GE225 := n5_
         have NB211_225 := n6_
         have NB225_211 := n7_
         clear n0_ n1_ n2_ n3_ n4_ n5_ n6_ n7_
         clear hb hbox hg
         refine hK.out _ _ ⟨HS0_, HS1_, HS2_⟩ (fun hHeld => ?_)
         clear hK K
         refine nS (some 10) ?_
         refine oS (i := 15) (N := none) (bn 16 65535) rfl HT_.out (fun K hK => ?_)
         have hs24 : w23.cell? ⟨gb225, 0, none⟩ = some (.string (⟨#[]⟩ : ByteArray)) := (blk_cell BK225.out 0).trans rfl
         have hfs24 := blk_frozen BK225.out 0
         have hns24_0 := NB211_225.out
         have hms24_0 := NB225_211.out
         have hs25 : w23.cell? ⟨gb225, 1, none⟩ = some (.int .u64 0) := (blk_cell BK225.out 1).trans rfl
         have hfs25 := blk_frozen BK225.out 1
         have hns25_0 := NB211_225.out
         have hms25_0 := NB225_211.out
         have hs26 : w23.cell? ⟨gb225, 2, none⟩ = some (.int .i64 0) := (blk_cell BK225.out 2).trans rfl
         have hfs26 := blk_frozen BK225.out 2
         have hns26_0 := NB211_225.out
         have hms26_0 := NB225_211.out
         have hs27 : w23.cell? ⟨gb225, 3, none⟩ = some (.string (⟨#[]⟩ : ByteArray)) := (blk_cell BK225.out 3).trans rfl
         have hfs27 := blk_frozen BK225.out 3
         have hns27_0 := NB211_225.out
         have hms27_0 := NB225_211.out
         have hs28 : w23.cell? ⟨gb225, 4, none⟩ = some (.string (⟨#[]⟩ : ByteArray)) := (blk_cell BK225.out 4).trans rfl
         have hfs28 := blk_frozen BK225.out 4
         have hns28_0 := NB211_225.out
         have hms28_0 := NB225_211.out
         refine skip_ (w1 := ?_) (by rfl) rfl ?_ ?_
         rotate_left
         ·refine' fresh_Take.store5 _ _ _ _ ?ho_ _ gb225 _ _ _ _ _ ?hp_ ?hv_ BK225.out
          case ho_ => rfl
          case hp_ => rfl
          case hv_ => rfl
         have hne_ : ad216.block ≠ gb225 := Kd.own_blk (Kd.R_ne HO_4.out BK225.out (by decide))
         refine hK.out _ _ ⟨(fresh_Take.far5 hne_ _ _ _ _ _).trans hHeld.1, (fresh_Take.far5 (a := ⟨ad216.block, _, none⟩) hne_ _ _ _ _ _).trans hHeld.2.1, (fresh_Take.far5 (a := ⟨ad216.block, _, none⟩) hne_ _ _ _ _ _).trans hHeld.2.2⟩ (fun hHeld => ?_)
         clear hne_
         clear hK K
         refine done_ (done_of HT_.out (by kernel_rfl)) ?_
         have q0_ : (((((w23.setCell ⟨gb225, 0, none⟩ (.string (rdOf ByteArray.empty t212 0))).setCell ⟨gb225, 1, none⟩ (.int .u64 t217)).setCell ⟨gb225, 2, none⟩ (.int .i64 (wrap64 (ji15)))).setCell ⟨gb225, 3, none⟩ (.string (rdOf ByteArray.empty t212 3))).setCell ⟨gb225, 4, none⟩ (.string (rdOf ByteArray.empty t212 4))).heap[gb225]? = some (.cells #[.string (rdOf ByteArray.empty t212 0), .int .u64 t217, .int .i64 (wrap64 (ji15)), .string (rdOf ByteArray.empty t212 3), .string (rdOf ByteArray.empty t212 4)] 24 (0, 0)) := (blk_put (blk_put (blk_put (blk_put (blk_put BK225.out 0 (.string (rdOf ByteArray.empty t212 0)) rfl) 1 (.int .u64 t217) rfl) 2 (.int .i64 (wrap64 (ji15))) rfl) 3 (.string (rdOf ByteArray.empty t212 3)) rfl) 4 (.string (rdOf ByteArray.empty t212 4)) rfl)
         have q1_ : (((((w23.setCell ⟨gb225, 0, none⟩ (.string (rdOf ByteArray.empty t212 0))).setCell ⟨gb225, 1, none⟩ (.int .u64 t217)).setCell ⟨gb225, 2, none⟩ (.int .i64 (wrap64 (ji15)))).setCell ⟨gb225, 3, none⟩ (.string (rdOf ByteArray.empty t212 3))).setCell ⟨gb225, 4, none⟩ (.string (rdOf ByteArray.empty t212 4))).heap[gb211]? = some (.cells #[.string (⟨#[]⟩ : ByteArray), .int .u64 0, .int .i64 0, .string (⟨#[]⟩ : ByteArray), .string (⟨#[]⟩ : ByteArray)] 24 (0, 0)) := (blk_far (blk_far (blk_far (blk_far (blk_far BK211.out NB211_225.out (.string (rdOf ByteArray.empty t212 0))) NB211_225.out (.int .u64 t217)) NB211_225.out (.int .i64 (wrap64 (ji15)))) NB211_225.out (.string (rdOf ByteArray.empty t212 3))) NB211_225.out (.string (rdOf ByteArray.empty t212 4)))
         have q2_ : Below w.heap.size w (((((w23.setCell ⟨gb225, 0, none⟩ (.string (rdOf ByteArray.empty t212 0))).setCell ⟨gb225, 1, none⟩ (.int .u64 t217)).setCell ⟨gb225, 2, none⟩ (.int .i64 (wrap64 (ji15)))).setCell ⟨gb225, 3, none⟩ (.string (rdOf ByteArray.empty t212 3))).setCell ⟨gb225, 4, none⟩ (.string (rdOf ByteArray.empty t212 4))) := (below_set (below_set (below_set (below_set (below_set HB.out GE225.out) GE225.out) GE225.out) GE225.out) GE225.out)
         have q3_ := Kd.R_mono (Kd.R_far (p := ⟨gb225, 4, none⟩) (Kd.R_far (p := ⟨gb225, 3, none⟩) (Kd.R_far (p := ⟨gb225, 2, none⟩) (Kd.R_far (p := ⟨gb225, 1, none⟩) (Kd.R_far (p := ⟨gb225, 0, none⟩) (Kd.R_types HO_4.out BK225.out (by decide)) (fun _ hk => hk.2) (.string (rdOf ByteArray.empty t212 0))) (fun _ hk => hk.2) (.int .u64 t217)) (fun _ hk => hk.2) (.int .i64 (wrap64 (ji15)))) (fun _ hk => hk.2) (.string (rdOf ByteArray.empty t212 3))) (fun _ hk => hk.2) (.string (rdOf ByteArray.empty t212 4))) (fun _ h_ => h_.1)
         clear HO_4 BK225 BK211 HB hHeld
         have HO_4 := Aside0.mk q3_
         have BK211 := Aside0.mk q1_
         have BK225 := Aside0.mk q0_
         have HB := Aside0.mk q2_
         clear q0_ q1_ q2_ q3_
         (try clear HS0_)
         (try clear HS1_)
         (try clear HS2_)
         generalize (((((w23.setCell ⟨gb225, 0, none⟩ (.string (rdOf ByteArray.empty t212 0))).setCell ⟨gb225, 1, none⟩ (.int .u64 t217)).setCell ⟨gb225, 2, none⟩ (.int .i64 (wrap64 (ji15)))).setCell ⟨gb225, 3, none⟩ (.string (rdOf ByteArray.empty t212 3))).setCell ⟨gb225, 4, none⟩ (.string (rdOf ByteArray.empty t212 4))) = w23 at HO_4 BK211 BK225 HB ⊢
         go_upto_region 7 with (fail)
         go_cut [62] (fun v62 wc => ∃ (kq : Nat) (x62_17 : Bool), v62 = .bool x62_17 ∧ Aside0 (fresh_Take.j1 kq x62_17 (rdOf ByteArray.empty t212 0) t217 (wrap64 (ji15)) (rdOf ByteArray.empty t212 3) (rdOf ByteArray.empty t212 4) = some (r1, r2, r3, r4, r5, r6)) ∧ Aside0 (kq ≤ kj2) ∧ Aside0 (wc.heap[gb211]? = some (.cells #[.string (⟨#[]⟩ : ByteArray), .int .u64 0, .int .i64 0, .string (⟨#[]⟩ : ByteArray), .string (⟨#[]⟩ : ByteArray)] 24 (0, 0))) ∧ Aside0 (wc.heap[gb225]? = some (.cells #[.string (rdOf ByteArray.empty t212 0), .int .u64 t217, .int .i64 (wrap64 (ji15)), .string (rdOf ByteArray.empty t212 3), .string (rdOf ByteArray.empty t212 4)] 24 (0, 0))) ∧ Aside0 (Below w.heap.size w wc))
         case first =>
          have H := HC18.out
          clear HC18
          by_cases c29 : t218 = true
          ·subst c29
           rw [if_pos rfl] at H
           by_cases c30 : t221 = true
           ·subst c30
            rw [if_pos rfl] at H
            replace H := Option.bind_eq_some_iff.mp H
            obtain ⟨t226, A310, H⟩ := H
            try dsimp only at H
            have A31 := Aside0.mk A310
            clear A310
            have H' := Aside0.mk H
            clear H
            have hnb32 := NB225_211.out
            have hnc32 := NB211_225.out
            have hcz33_0 : w23.cell? ⟨gb225, 0, none⟩ = some (.string (rdOf ByteArray.empty t212 0)) := (blk_cell BK225.out 0).trans rfl
            have hcz33_1 : w23.cell? ⟨gb225, 1, none⟩ = some (.int .u64 t217) := (blk_cell BK225.out 1).trans rfl
            have hcz33_2 : w23.cell? ⟨gb225, 2, none⟩ = some (.int .i64 (wrap64 (ji15))) := (blk_cell BK225.out 2).trans rfl
            have hcz33_3 : w23.cell? ⟨gb225, 3, none⟩ = some (.string (rdOf ByteArray.empty t212 3)) := (blk_cell BK225.out 3).trans rfl
            have hcz33_4 : w23.cell? ⟨gb225, 4, none⟩ = some (.string (rdOf ByteArray.empty t212 4)) := (blk_cell BK225.out 4).trans rfl
            have hfz33_0 := blk_frozen BK225.out 0
            have hfz33_1 := blk_frozen BK225.out 1
            have hfz33_2 := blk_frozen BK225.out 2
            have hfz33_3 := blk_frozen BK225.out 3
            have hfz33_4 := blk_frozen BK225.out 4
            go_wp2_with (first | (go_at_call 13; (with_reducible refine (fresh_Right.calls kj2 (rdOf ByteArray.empty t212 0) t217 (wrap64 (ji15)) (rdOf ByteArray.empty t212 3) (rdOf ByteArray.empty t212 4) t226 _ A31.out ?sidev).mono ?_); (case sidev => exact Laid8.below HV.out bl_); rintro e w34 ⟨rfl, hb⟩; have n0_ := Aside0.mk (Kd.R_below (by (with_reducible repeat (first | apply Kd.R_alloc | apply Kd.R_drewN | apply Kd.R_drew)); exact HO_4.out) hb); have n1_ := Aside0.mk (blk_below (g := gb211) (o := .cells #[.string (⟨#[]⟩ : ByteArray), .int .u64 0, .int .i64 0, .string (⟨#[]⟩ : ByteArray), .string (⟨#[]⟩ : ByteArray)] 24 (0, 0)) kl_ hb); have n2_ := Aside0.mk (blk_below (g := gb225) (o := .cells #[.string (rdOf ByteArray.empty t212 0), .int .u64 t217, .int .i64 (wrap64 (ji15)), .string (rdOf ByteArray.empty t212 3), .string (rdOf ByteArray.empty t212 4)] 24 (0, 0)) kl_ hb); have n3_ := Aside0.mk (below_step bl_ hb); clear HO_4; clear BK211; clear BK225; clear HB; have HO_4 := n0_; have BK211 := n1_; have BK225 := n2_; have HB := n3_; clear n0_ n1_ n2_ n3_; (try clear hb)))
            go_meet
            case rel => exact ⟨_, (!t226), es_, H', ⟨by have := HJ2.out; first | omega | exact Nat.le_refl _⟩, ⟨kl_⟩, ⟨kl_⟩, ⟨bl_⟩⟩
           ·replace c30 := Bool.eq_false_iff.mpr c30
            subst c30
            rw [if_neg (show ¬ (false = true) by decide)] at H
            have H' := Aside0.mk H
            clear H
            go_wp2
            go_meet
            case rel => exact ⟨_, (true), es_, H', ⟨by have := HJ2.out; first | omega | exact Nat.le_refl _⟩, ⟨kl_⟩, ⟨kl_⟩, ⟨bl_⟩⟩
          ·replace c29 := Bool.eq_false_iff.mpr c29
           subst c29
           rw [if_neg (show ¬ (false = true) by decide)] at H
           have H' := Aside0.mk H
           clear H
           go_wp2
           go_meet
           case rel => exact ⟨_, (true), es_, H', ⟨by have := HJ2.out; first | omega | exact Nat.le_refl _⟩, ⟨kl_⟩, ⟨kl_⟩, ⟨bl_⟩⟩
         case rest =>
          clear HC18
          try clear c1
          try clear c2
          try clear p2
          try clear q2
          try clear hx2
          try clear qi2
          try clear c3
          try clear c6
          try clear c6b0
          try clear c6b1
          try clear p6
          try clear c8
          try clear c10
          try clear c10b0
          try clear c10b1
          try clear c11
          try clear c12
          try clear c12b0
          try clear c12b1
          try clear c14
          try clear c14b0
          try clear c14b1
          try clear c16
          try clear c16b0
          try clear c16b1
          try clear c17
          try clear c17b0
          try clear c17b1
          try clear p21
          try clear q21
          try clear hx21
          try clear qi21
          try clear p22
          try clear q22
          try clear hx22
          try clear qi22
          try clear c29
          try clear c30
          try clear c32
          try clear hcz33_0
          try clear hcz33_1
          try clear hcz33_2
          try clear hcz33_3
          try clear hcz33_4
          try clear hcz9_0
          try clear hcz9_1
          try clear hcz9_2
          try clear hcz9_3
          try clear hcz9_4
          try clear hfz33_0
          try clear hfz33_1
          try clear hfz33_2
          try clear hfz33_3
          try clear hfz33_4
          try clear hfz9_0
          try clear hfz9_1
          try clear hfz9_2
          try clear hfz9_3
          try clear hfz9_4
          try clear hx216_0
          try clear hx219_0
          try clear hx222_0
          try clear hx223_0
          try clear hx224_0
          try clear p2
          try clear p216
          try clear p219
          try clear p222
          try clear p223
          try clear p224
          try clear q216
          try clear q219
          try clear q222
          try clear q223
          try clear q224
          obtain ⟨kq, x62_17, rfl, HA, HJ17, BK211, BK225, HB⟩ := hcut
          cases kq with
          | zero => exact absurd HA.out (by simp [fresh_Take.j1])
          | succ kj17 =>
           have H := HA.out
           clear HA
           simp only [fresh_Take.j1] at H
           by_cases c35 : x62_17 = true
           ·subst c35
            rw [if_pos rfl] at H
            simp only [Option.some.injEq, Prod.mk.injEq] at H
            obtain ⟨rfl, rfl, rfl, rfl, rfl, rfl⟩ := H
            have hnb36 := NB211_225.out
            have hnc36 := NB225_211.out
            have hcz37_0 : wc.cell? ⟨gb211, 0, none⟩ = some (.string (⟨#[]⟩ : ByteArray)) := (blk_cell BK211.out 0).trans rfl
            have hcz37_1 : wc.cell? ⟨gb211, 1, none⟩ = some (.int .u64 0) := (blk_cell BK211.out 1).trans rfl
            have hcz37_2 : wc.cell? ⟨gb211, 2, none⟩ = some (.int .i64 0) := (blk_cell BK211.out 2).trans rfl
            have hcz37_3 : wc.cell? ⟨gb211, 3, none⟩ = some (.string (⟨#[]⟩ : ByteArray)) := (blk_cell BK211.out 3).trans rfl
            have hcz37_4 : wc.cell? ⟨gb211, 4, none⟩ = some (.string (⟨#[]⟩ : ByteArray)) := (blk_cell BK211.out 4).trans rfl
            have hfz37_0 := blk_frozen BK211.out 0
            have hfz37_1 := blk_frozen BK211.out 1
            have hfz37_2 := blk_frozen BK211.out 2
            have hfz37_3 := blk_frozen BK211.out 3
            have hfz37_4 := blk_frozen BK211.out 4
            go_wp2
            refine bodyPost_ret (results_ct rfl _ _ gb211 24 #[.string (⟨#[]⟩ : ByteArray), .int .u64 0, .int .i64 0, .string (⟨#[]⟩ : ByteArray), .string (⟨#[]⟩ : ByteArray)] (0, 0) _ rfl (by (with_reducible repeat (first | refine blk_drewN ?_ _ | refine blk_drew ?_ | refine blk_alloc ?_ _)); refine blk_put (cs := #[.string (⟨#[]⟩ : ByteArray), .int .u64 0, .int .i64 0, .string (⟨#[]⟩ : ByteArray), .string (⟨#[]⟩ : ByteArray)]) ?_ 4 _ rfl; (with_reducible repeat (first | refine blk_drewN ?_ _ | refine blk_drew ?_ | refine blk_alloc ?_ _)); refine blk_put (cs := #[.string (⟨#[]⟩ : ByteArray), .int .u64 0, .int .i64 0, .string (⟨#[]⟩ : ByteArray), .string (⟨#[]⟩ : ByteArray)]) ?_ 3 _ rfl; (with_reducible repeat (first | refine blk_drewN ?_ _ | refine blk_drew ?_ | refine blk_alloc ?_ _)); refine blk_put (cs := #[.string (⟨#[]⟩ : ByteArray), .int .u64 0, .int .i64 0, .string (⟨#[]⟩ : ByteArray), .string (⟨#[]⟩ : ByteArray)]) ?_ 2 _ rfl; (with_reducible repeat (first | refine blk_drewN ?_ _ | refine blk_drew ?_ | refine blk_alloc ?_ _)); refine blk_put (cs := #[.string (⟨#[]⟩ : ByteArray), .int .u64 0, .int .i64 0, .string (⟨#[]⟩ : ByteArray), .string (⟨#[]⟩ : ByteArray)]) ?_ 1 _ rfl; (with_reducible repeat (first | refine blk_drewN ?_ _ | refine blk_drew ?_ | refine blk_alloc ?_ _)); refine blk_put (cs := #[.string (⟨#[]⟩ : ByteArray), .int .u64 0, .int .i64 0, .string (⟨#[]⟩ : ByteArray), .string (⟨#[]⟩ : ByteArray)]) ?_ 0 _ rfl; (with_reducible repeat (first | refine blk_drewN ?_ _ | refine blk_drew ?_ | refine blk_alloc ?_ _)); exact BK211.out) Tryz.underlying24 rfl (by kernel_rfl)) rfl ?_
            exact ⟨by first | rfl | (simp [errW_none, errW_some] <;> rfl) | (simp only [← hji15]; first | rfl | (simp [errW_none, errW_some] <;> rfl)) | (simp [*, errW_none, errW_some] <;> rfl), bl_⟩
           ·replace c35 := Bool.eq_false_iff.mpr c35
            subst c35
            rw [if_neg (show ¬ (false = true) by decide)] at H
            simp only [Option.some.injEq, Prod.mk.injEq] at H
            obtain ⟨rfl, rfl, rfl, rfl, rfl, rfl⟩ := H
            have hnb38 := NB225_211.out
            have hnc38 := NB211_225.out
            have hcz39_0 : wc.cell? ⟨gb225, 0, none⟩ = some (.string (rdOf ByteArray.empty t212 0)) := (blk_cell BK225.out 0).trans rfl
            have hcz39_1 : wc.cell? ⟨gb225, 1, none⟩ = some (.int .u64 t217) := (blk_cell BK225.out 1).trans rfl
            have hcz39_2 : wc.cell? ⟨gb225, 2, none⟩ = some (.int .i64 (wrap64 (ji15))) := (blk_cell BK225.out 2).trans rfl
            have hcz39_3 : wc.cell? ⟨gb225, 3, none⟩ = some (.string (rdOf ByteArray.empty t212 3)) := (blk_cell BK225.out 3).trans rfl
            have hcz39_4 : wc.cell? ⟨gb225, 4, none⟩ = some (.string (rdOf ByteArray.empty t212 4)) := (blk_cell BK225.out 4).trans rfl
            have hfz39_0 := blk_frozen BK225.out 0
            have hfz39_1 := blk_frozen BK225.out 1
            have hfz39_2 := blk_frozen BK225.out 2
            have hfz39_3 := blk_frozen BK225.out 3
            have hfz39_4 := blk_frozen BK225.out 4
            have hcz40_0 : wc.cell? ⟨gb211, 0, none⟩ = some (.string (⟨#[]⟩ : ByteArray)) := (blk_cell BK211.out 0).trans rfl
            have hcz40_1 : wc.cell? ⟨gb211, 1, none⟩ = some (.int .u64 0) := (blk_cell BK211.out 1).trans rfl
            have hcz40_2 : wc.cell? ⟨gb211, 2, none⟩ = some (.int .i64 0) := (blk_cell BK211.out 2).trans rfl
            have hcz40_3 : wc.cell? ⟨gb211, 3, none⟩ = some (.string (⟨#[]⟩ : ByteArray)) := (blk_cell BK211.out 3).trans rfl
            have hcz40_4 : wc.cell? ⟨gb211, 4, none⟩ = some (.string (⟨#[]⟩ : ByteArray)) := (blk_cell BK211.out 4).trans rfl
            have hfz40_0 := blk_frozen BK211.out 0
            have hfz40_1 := blk_frozen BK211.out 1
            have hfz40_2 := blk_frozen BK211.out 2
            have hfz40_3 := blk_frozen BK211.out 3
            have hfz40_4 := blk_frozen BK211.out 4
            go_wp2
            refine bodyPost_ret (results_ct rfl _ _ gb211 24 #[.string (rdOf ByteArray.empty t212 0), .int .u64 t217, .int .i64 (wrap64 (ji15)), .string (rdOf ByteArray.empty t212 3), .string (rdOf ByteArray.empty t212 4)] (0, 0) _ rfl (by (with_reducible repeat (first | refine blk_drewN ?_ _ | refine blk_drew ?_ | refine blk_alloc ?_ _)); refine blk_put (cs := #[.string (rdOf ByteArray.empty t212 0), .int .u64 t217, .int .i64 (wrap64 (ji15)), .string (rdOf ByteArray.empty t212 3), .string (⟨#[]⟩ : ByteArray)]) ?_ 4 _ rfl; (with_reducible repeat (first | refine blk_drewN ?_ _ | refine blk_drew ?_ | refine blk_alloc ?_ _)); refine blk_put (cs := #[.string (rdOf ByteArray.empty t212 0), .int .u64 t217, .int .i64 (wrap64 (ji15)), .string (⟨#[]⟩ : ByteArray), .string (⟨#[]⟩ : ByteArray)]) ?_ 3 _ rfl; (with_reducible repeat (first | refine blk_drewN ?_ _ | refine blk_drew ?_ | refine blk_alloc ?_ _)); refine blk_put (cs := #[.string (rdOf ByteArray.empty t212 0), .int .u64 t217, .int .i64 0, .string (⟨#[]⟩ : ByteArray), .string (⟨#[]⟩ : ByteArray)]) ?_ 2 _ rfl; (with_reducible repeat (first | refine blk_drewN ?_ _ | refine blk_drew ?_ | refine blk_alloc ?_ _)); refine blk_put (cs := #[.string (rdOf ByteArray.empty t212 0), .int .u64 0, .int .i64 0, .string (⟨#[]⟩ : ByteArray), .string (⟨#[]⟩ : ByteArray)]) ?_ 1 _ rfl; (with_reducible repeat (first | refine blk_drewN ?_ _ | refine blk_drew ?_ | refine blk_alloc ?_ _)); refine blk_put (cs := #[.string (⟨#[]⟩ : ByteArray), .int .u64 0, .int .i64 0, .string (⟨#[]⟩ : ByteArray), .string (⟨#[]⟩ : ByteArray)]) ?_ 0 _ rfl; (with_reducible repeat (first | refine blk_drewN ?_ _ | refine blk_drew ?_ | refine blk_alloc ?_ _)); exact BK211.out) Tryz.underlying24 rfl (by kernel_rfl)) rfl ?_
            exact ⟨by first | rfl | (simp [errW_none, errW_some] <;> rfl) | (simp only [← hji15]; first | rfl | (simp [errW_none, errW_some] <;> rfl)) | (simp [*, errW_none, errW_some] <;> rfl), bl_⟩
        ·rw [if_neg c17] at H
         exact absurd H (by simp)
       ·rw [if_neg c16] at H
        exact absurd H (by simp)
      ·rw [if_neg c14] at H
       exact absurd H (by simp)
     ·rw [if_neg c12] at H
      exact absurd H (by simp)
    ·rw [if_neg c10] at H
     exact absurd H (by simp)
mutual
def fresh_Check.j0 : Nat → ByteArray → ByteArray → Int → Int → Bool → ByteArray → Int → Int → ByteArray → ByteArray → Option (Int)
 | 0, _, _, _, _, _, _, _, _, _, _ => none
 | k + 1, x1, x2, x3, x4, x20, x228000, x228001, x228002, x228003, x228004 => if x20 = true then (some 1) else ((fresh_signed.f k x228000 x228001 x228002 x228003 x228004).bind fun bt230 => (if bt230.2 = 0 then ((term_Verify.f x1 bt230.1 x228004).bind fun t232 => (fresh_Check.j1 k x2 x3 x4 (t232 != 0) x228000 x228001 x228002 x228003 x228004)) else (fresh_Check.j1 k x2 x3 x4 true x228000 x228001 x228002 x228003 x228004)))
def fresh_Check.j1 : Nat → ByteArray → Int → Int → Bool → ByteArray → Int → Int → ByteArray → ByteArray → Option (Int)
 | 0, _, _, _, _, _, _, _, _, _ => none
 | k + 1, x2, x3, x4, x26, x228000, x228001, x228002, x228003, x228004 => if x26 = true then (some 7) else (if x228000.toList = x2.toList then (if x228001 > x3 then (some 8) else (if (IntKind.u64.wrap (x3 - x228001)) > x4 then (some 8) else (some 0))) else (some 3))
end
def fresh_Check.f (k : Nat) (a0_0 : ByteArray) (a0_1 : Int) (a0_2 : Int) (a0_3 : ByteArray) (a0_4 : ByteArray) (a1 : ByteArray) (a2 : ByteArray) (a3 : Int) (a4 : Int) : Option (Int) := (fresh_Right.f k a0_0 a0_1 a0_2 a0_3 a0_4).bind fun t228 => (if t228 = true then ((term_Kind.f a1).bind fun t229 => (fresh_Check.j0 k a1 a2 a3 a4 (t229 != 117) a0_0 a0_1 a0_2 a0_3 a0_4)) else (fresh_Check.j0 k a1 a2 a3 a4 true a0_0 a0_1 a0_2 a0_3 a0_4))
set_option maxHeartbeats 8000000 in
set_option maxRecDepth 100000 in
theorem fresh_Check.calls (k : Nat) (a0_0 : ByteArray) (a0_1 : Int) (a0_2 : Int) (a0_3 : ByteArray) (a0_4 : ByteArray) (a1 : ByteArray) (a2 : ByteArray) (a3 : Int) (a4 : Int) (r : Int) (w : World) (h : fresh_Check.f k a0_0 a0_1 a0_2 a0_3 a0_4 a1 a2 a3 a4 = some r) (hV : Laid8 w) :
  Calls Tryz.prog 15 #[.agg #[.string a0_0, .int .u64 a0_1, .int .i64 a0_2, .string a0_3, .string a0_4], .string a1, .string a2, .int .u64 a3, .int .u64 a4] w fun e w' => e = .returned (.int .i64 r) ∧ Below w.heap.size w w' := by
 have HV := Aside0.mk hV
 clear hV
 have hu24 := Tryz.underlying24
 have HB := Aside0.mk (Below.refl w.heap.size w)
 unfold fresh_Check.f at h
 have H := h
 clear h
 have HC6 := Aside0.mk H
 clear H
 go_enter Tryz.func15, Tryz.ntmps15
 go_upto_region 1 with (first | ((with_reducible refine gate_dst (N := 5) rfl ?_); refine box_event ?hg (N := 5) ?hd (cs := #[.string a0_0, .int .u64 a0_1, .int .i64 a0_2, .string a0_3, .string a0_4]) (t := 24) ?hr ?_; (case hd => rfl); (case hg => rfl); (case hr => first | (go_simp; done) | (go_simp; rfl)); intro gb227 hg w7 hbox hb; have n0_ := Aside0.mk (below_step bl_ hb); have n1_ := Aside0.mk (hbox); have n2_ := Aside0.mk ((by rw [hg]; exact (below_size bl_) : w.heap.size ≤ gb227)); have n3_ := Aside0.mk ((by rw [hg]; exact (below_size bl_) : w.heap.size ≤ gb227)); clear HB; have HB := n0_; have BK227 := n1_; have GW227 := n2_; have GE227 := n3_; clear n0_ n1_ n2_ n3_; clear hb hbox hg))
 (try simp only [Act.put, List.setIfInBounds_toArray, List.set_cons_zero, List.set_cons_succ])
 go_cut [20] (fun v20 wc => ∃ (kq : Nat) (x20_5 : Bool), v20 = .bool x20_5 ∧ Aside0 (fresh_Check.j0 kq a1 a2 a3 a4 x20_5 a0_0 a0_1 a0_2 a0_3 a0_4 = some r) ∧ Aside0 (kq ≤ k) ∧ Aside0 (wc.heap[gb227]? = some (.cells #[.string a0_0, .int .u64 a0_1, .int .i64 a0_2, .string a0_3, .string a0_4] 24 (0, 0))) ∧ Aside0 (Below w.heap.size w wc))
 case first =>
  have H := HC6.out
  clear HC6
  replace H := Option.bind_eq_some_iff.mp H
  obtain ⟨t228, A80, H⟩ := H
  try dsimp only at H
  have A8 := Aside0.mk A80
  clear A80
  by_cases c9 : t228 = true
  ·subst c9
   rw [if_pos rfl] at H
   replace H := Option.bind_eq_some_iff.mp H
   obtain ⟨t229, A100, H⟩ := H
   try dsimp only at H
   have A10 := Aside0.mk A100
   clear A100
   have H' := Aside0.mk H
   clear H
   have hcz11_0 : w7.cell? ⟨gb227, 0, none⟩ = some (.string a0_0) := (blk_cell BK227.out 0).trans rfl
   have hcz11_1 : w7.cell? ⟨gb227, 1, none⟩ = some (.int .u64 a0_1) := (blk_cell BK227.out 1).trans rfl
   have hcz11_2 : w7.cell? ⟨gb227, 2, none⟩ = some (.int .i64 a0_2) := (blk_cell BK227.out 2).trans rfl
   have hcz11_3 : w7.cell? ⟨gb227, 3, none⟩ = some (.string a0_3) := (blk_cell BK227.out 3).trans rfl
   have hcz11_4 : w7.cell? ⟨gb227, 4, none⟩ = some (.string a0_4) := (blk_cell BK227.out 4).trans rfl
   have hfz11_0 := blk_frozen BK227.out 0
   have hfz11_1 := blk_frozen BK227.out 1
   have hfz11_2 := blk_frozen BK227.out 2
   have hfz11_3 := blk_frozen BK227.out 3
   have hfz11_4 := blk_frozen BK227.out 4
   go_wp2_with (first | ((with_reducible refine gate_callee (f := 13) rfl ?_); refine gL (some 14) Tryz.func13 #[.agg #[.string a0_0, .int .u64 a0_1, .int .i64 a0_2, .string a0_3, .string a0_4]] rfl ?_; (with_reducible refine (fresh_Right.calls k a0_0 a0_1 a0_2 a0_3 a0_4 true _ A8.out ?sidev).mono ?_); (case sidev => exact Laid8.below HV.out bl_); rintro e w12 ⟨rfl, hb⟩; refine ⟨_, rfl, ?_⟩; have n0_ := Aside0.mk (blk_below (g := gb227) (o := .cells #[.string a0_0, .int .u64 a0_1, .int .i64 a0_2, .string a0_3, .string a0_4] 24 (0, 0)) kl_ hb); have n1_ := Aside0.mk (below_step bl_ hb); clear BK227; clear HB; have BK227 := n0_; have HB := n1_; clear n0_ n1_; (try clear hb)) | (go_at_call 21; (with_reducible refine (term_Kind.calls a1 t229 _ A10.out).mono ?_); rintro e w13 ⟨rfl, hb⟩; have n0_ := Aside0.mk (blk_below (g := gb227) (o := .cells #[.string a0_0, .int .u64 a0_1, .int .i64 a0_2, .string a0_3, .string a0_4] 24 (0, 0)) kl_ hb); have n1_ := Aside0.mk (below_step bl_ hb); clear BK227; clear HB; have BK227 := n0_; have HB := n1_; clear n0_ n1_; (try clear hb)))
   go_meet
   case rel => exact ⟨_, ((t229 != 117)), es_, H', ⟨by first | omega | exact Nat.le_refl _⟩, ⟨kl_⟩, ⟨bl_⟩⟩
  ·replace c9 := Bool.eq_false_iff.mpr c9
   subst c9
   rw [if_neg (show ¬ (false = true) by decide)] at H
   have H' := Aside0.mk H
   clear H
   have hcz14_0 : w7.cell? ⟨gb227, 0, none⟩ = some (.string a0_0) := (blk_cell BK227.out 0).trans rfl
   have hcz14_1 : w7.cell? ⟨gb227, 1, none⟩ = some (.int .u64 a0_1) := (blk_cell BK227.out 1).trans rfl
   have hcz14_2 : w7.cell? ⟨gb227, 2, none⟩ = some (.int .i64 a0_2) := (blk_cell BK227.out 2).trans rfl
   have hcz14_3 : w7.cell? ⟨gb227, 3, none⟩ = some (.string a0_3) := (blk_cell BK227.out 3).trans rfl
   have hcz14_4 : w7.cell? ⟨gb227, 4, none⟩ = some (.string a0_4) := (blk_cell BK227.out 4).trans rfl
   have hfz14_0 := blk_frozen BK227.out 0
   have hfz14_1 := blk_frozen BK227.out 1
   have hfz14_2 := blk_frozen BK227.out 2
   have hfz14_3 := blk_frozen BK227.out 3
   have hfz14_4 := blk_frozen BK227.out 4
   go_wp2_with (first | ((with_reducible refine gate_callee (f := 13) rfl ?_); refine gL (some 14) Tryz.func13 #[.agg #[.string a0_0, .int .u64 a0_1, .int .i64 a0_2, .string a0_3, .string a0_4]] rfl ?_; (with_reducible refine (fresh_Right.calls k a0_0 a0_1 a0_2 a0_3 a0_4 false _ A8.out ?sidev).mono ?_); (case sidev => exact Laid8.below HV.out bl_); rintro e w15 ⟨rfl, hb⟩; refine ⟨_, rfl, ?_⟩; have n0_ := Aside0.mk (blk_below (g := gb227) (o := .cells #[.string a0_0, .int .u64 a0_1, .int .i64 a0_2, .string a0_3, .string a0_4] 24 (0, 0)) kl_ hb); have n1_ := Aside0.mk (below_step bl_ hb); clear BK227; clear HB; have BK227 := n0_; have HB := n1_; clear n0_ n1_; (try clear hb)))
   go_meet
   case rel => exact ⟨_, (true), es_, H', ⟨by first | omega | exact Nat.le_refl _⟩, ⟨kl_⟩, ⟨bl_⟩⟩
 case rest =>
  clear HC6
  try clear c1
  try clear p2
  try clear c9
  try clear c13
  try clear c15
  try clear hcz11_0
  try clear hcz11_1
  try clear hcz11_2
  try clear hcz11_3
  try clear hcz11_4
  try clear hcz14_0
  try clear hcz14_1
  try clear hcz14_2
  try clear hcz14_3
  try clear hcz14_4
  try clear hfz11_0
  try clear hfz11_1
  try clear hfz11_2
  try clear hfz11_3
  try clear hfz11_4
  try clear hfz14_0
  try clear hfz14_1
  try clear hfz14_2
  try clear hfz14_3
  try clear hfz14_4
  obtain ⟨kq, x20_5, rfl, HA, HJ5, BK227, HB⟩ := hcut
  cases kq with
  | zero => exact absurd HA.out (by simp [fresh_Check.j0])
  | succ kj5 =>
   have H := HA.out
   clear HA
   simp only [fresh_Check.j0] at H
   by_cases c16 : x20_5 = true
   ·subst c16
    rw [if_pos rfl] at H
    obtain rfl := Option.some.inj H
    go_wp2
    go_ret
    exact ⟨eq_, bl_⟩
   ·replace c16 := Bool.eq_false_iff.mpr c16
    subst c16
    rw [if_neg (show ¬ (false = true) by decide)] at H
    replace H := Option.bind_eq_some_iff.mp H
    obtain ⟨⟨t230, t231⟩, A170, H⟩ := H
    try dsimp only at H
    have A17 := Aside0.mk A170
    clear A170
    have HC18 := Aside0.mk H
    clear H
    have hcz19_0 : wc.cell? ⟨gb227, 0, none⟩ = some (.string a0_0) := (blk_cell BK227.out 0).trans rfl
    have hcz19_1 : wc.cell? ⟨gb227, 1, none⟩ = some (.int .u64 a0_1) := (blk_cell BK227.out 1).trans rfl
    have hcz19_2 : wc.cell? ⟨gb227, 2, none⟩ = some (.int .i64 a0_2) := (blk_cell BK227.out 2).trans rfl
    have hcz19_3 : wc.cell? ⟨gb227, 3, none⟩ = some (.string a0_3) := (blk_cell BK227.out 3).trans rfl
    have hcz19_4 : wc.cell? ⟨gb227, 4, none⟩ = some (.string a0_4) := (blk_cell BK227.out 4).trans rfl
    have hfz19_0 := blk_frozen BK227.out 0
    have hfz19_1 := blk_frozen BK227.out 1
    have hfz19_2 := blk_frozen BK227.out 2
    have hfz19_3 := blk_frozen BK227.out 3
    have hfz19_4 := blk_frozen BK227.out 4
    go_upto_region 4 with (first | ((with_reducible refine gate_callee (f := 25) rfl ?_); refine gL (some 23) Tryz.func25 #[.agg #[.string a0_0, .int .u64 a0_1, .int .i64 a0_2, .string a0_3, .string a0_4]] rfl ?_; (with_reducible refine (fresh_signed.calls kj5 a0_0 a0_1 a0_2 a0_3 a0_4 t230 t231 _ A17.out).mono ?_); rintro e w20 ⟨rfl, hb⟩; refine ⟨_, rfl, ?_⟩; have n0_ := Aside0.mk (blk_below (g := gb227) (o := .cells #[.string a0_0, .int .u64 a0_1, .int .i64 a0_2, .string a0_3, .string a0_4] 24 (0, 0)) kl_ hb); have n1_ := Aside0.mk (below_step bl_ hb); clear BK227; clear HB; have BK227 := n0_; have HB := n1_; clear n0_ n1_; (try clear hb)))
    (try simp only [Act.put, List.setIfInBounds_toArray, List.set_cons_zero, List.set_cons_succ])
    go_cut [26] (fun v26 wc => ∃ (kq : Nat) (x26_17 : Bool), v26 = .bool x26_17 ∧ Aside0 (fresh_Check.j1 kq a2 a3 a4 x26_17 a0_0 a0_1 a0_2 a0_3 a0_4 = some r) ∧ Aside0 (kq ≤ kj5) ∧ Aside0 (wc.heap[gb227]? = some (.cells #[.string a0_0, .int .u64 a0_1, .int .i64 a0_2, .string a0_3, .string a0_4] 24 (0, 0))) ∧ Aside0 (Below w.heap.size w wc))
    case first =>
     have H := HC18.out
     clear HC18
     by_cases c21 : t231 = 0
     ·rw [if_pos c21] at H
      have c21b0 : (t231 == 0) = true := beq_iff_eq.mpr c21
      have c21b1 : (t231 != 0) = false := bne_eq_false_iff_eq.mpr c21
      clear c21
      (first | rw [c21b0] | (simp only [i64_w, i32_w]; rw [c21b0]) | rw [c21b1] | skip)
      replace H := Option.bind_eq_some_iff.mp H
      obtain ⟨t232, A220, H⟩ := H
      try dsimp only at H
      have A22 := Aside0.mk A220
      clear A220
      have H' := Aside0.mk H
      clear H
      have hcz23_0 : w20.cell? ⟨gb227, 0, none⟩ = some (.string a0_0) := (blk_cell BK227.out 0).trans rfl
      have hcz23_1 : w20.cell? ⟨gb227, 1, none⟩ = some (.int .u64 a0_1) := (blk_cell BK227.out 1).trans rfl
      have hcz23_2 : w20.cell? ⟨gb227, 2, none⟩ = some (.int .i64 a0_2) := (blk_cell BK227.out 2).trans rfl
      have hcz23_3 : w20.cell? ⟨gb227, 3, none⟩ = some (.string a0_3) := (blk_cell BK227.out 3).trans rfl
      have hcz23_4 : w20.cell? ⟨gb227, 4, none⟩ = some (.string a0_4) := (blk_cell BK227.out 4).trans rfl
      have hfz23_0 := blk_frozen BK227.out 0
      have hfz23_1 := blk_frozen BK227.out 1
      have hfz23_2 := blk_frozen BK227.out 2
      have hfz23_3 := blk_frozen BK227.out 3
      have hfz23_4 := blk_frozen BK227.out 4
      go_wp2_with (first | (go_at_call 42; (with_reducible refine (term_Verify.calls a1 t230 a0_4 t232 _ A22.out).mono ?_); rintro e w24 ⟨rfl, hb⟩; have n0_ := Aside0.mk (blk_below (g := gb227) (o := .cells #[.string a0_0, .int .u64 a0_1, .int .i64 a0_2, .string a0_3, .string a0_4] 24 (0, 0)) kl_ hb); have n1_ := Aside0.mk (below_step bl_ hb); clear BK227; clear HB; have BK227 := n0_; have HB := n1_; clear n0_ n1_; (try clear hb)))
      go_meet
      case rel => exact ⟨_, ((t232 != 0)), es_, H', ⟨by have := HJ5.out; first | omega | exact Nat.le_refl _⟩, ⟨kl_⟩, ⟨bl_⟩⟩
     ·rw [if_neg c21] at H
      have c21b0 : (t231 == 0) = false := beq_eq_false_iff_ne.mpr c21
      have c21b1 : (t231 != 0) = true := bne_iff_ne.mpr c21
      (first | rw [c21b0] | (simp only [i64_w, i32_w]; rw [c21b0]) | rw [c21b1] | skip)
      have H' := Aside0.mk H
      clear H
      go_wp2
      go_meet
      case rel => exact ⟨_, (true), es_, H', ⟨by have := HJ5.out; first | omega | exact Nat.le_refl _⟩, ⟨kl_⟩, ⟨bl_⟩⟩
    case rest =>
     clear HC18
     try clear c1
     try clear c2
     try clear p2
     try clear c9
     try clear c13
     try clear c15
     try clear c16
     try clear c21
     try clear c21b0
     try clear c21b1
     try clear hcz11_0
     try clear hcz11_1
     try clear hcz11_2
     try clear hcz11_3
     try clear hcz11_4
     try clear hcz14_0
     try clear hcz14_1
     try clear hcz14_2
     try clear hcz14_3
     try clear hcz14_4
     try clear hcz19_0
     try clear hcz19_1
     try clear hcz19_2
     try clear hcz19_3
     try clear hcz19_4
     try clear hcz23_0
     try clear hcz23_1
     try clear hcz23_2
     try clear hcz23_3
     try clear hcz23_4
     try clear hfz11_0
     try clear hfz11_1
     try clear hfz11_2
     try clear hfz11_3
     try clear hfz11_4
     try clear hfz14_0
     try clear hfz14_1
     try clear hfz14_2
     try clear hfz14_3
     try clear hfz14_4
     try clear hfz19_0
     try clear hfz19_1
     try clear hfz19_2
     try clear hfz19_3
     try clear hfz19_4
     try clear hfz23_0
     try clear hfz23_1
     try clear hfz23_2
     try clear hfz23_3
     try clear hfz23_4
     try clear p2
     obtain ⟨kq, x26_17, rfl, HA, HJ17, BK227, HB⟩ := hcut
     cases kq with
     | zero => exact absurd HA.out (by simp [fresh_Check.j1])
     | succ kj17 =>
      have H := HA.out
      clear HA
      simp only [fresh_Check.j1] at H
      by_cases c25 : x26_17 = true
      ·subst c25
       rw [if_pos rfl] at H
       obtain rfl := Option.some.inj H
       go_wp2
       go_ret
       exact ⟨eq_, bl_⟩
      ·replace c25 := Bool.eq_false_iff.mpr c25
       subst c25
       rw [if_neg (show ¬ (false = true) by decide)] at H
       by_cases c26 : a0_0.toList = a2.toList
       ·rw [if_pos c26] at H
        have c26b0 : (a0_0.toList == a2.toList) = true := beq_iff_eq.mpr c26
        have c26b1 : (a0_0.toList != a2.toList) = false := bne_eq_false_iff_eq.mpr c26
        clear c26
        by_cases c27 : a0_1 > a3
        ·rw [if_pos c27] at H
         have c27b0 : decide (a3 < a0_1) = true := decide_eq_true c27
         clear c27
         obtain rfl := Option.some.inj H
         have hcz28_0 : wc.cell? ⟨gb227, 0, none⟩ = some (.string a0_0) := (blk_cell BK227.out 0).trans rfl
         have hcz28_1 : wc.cell? ⟨gb227, 1, none⟩ = some (.int .u64 a0_1) := (blk_cell BK227.out 1).trans rfl
         have hcz28_2 : wc.cell? ⟨gb227, 2, none⟩ = some (.int .i64 a0_2) := (blk_cell BK227.out 2).trans rfl
         have hcz28_3 : wc.cell? ⟨gb227, 3, none⟩ = some (.string a0_3) := (blk_cell BK227.out 3).trans rfl
         have hcz28_4 : wc.cell? ⟨gb227, 4, none⟩ = some (.string a0_4) := (blk_cell BK227.out 4).trans rfl
         have hfz28_0 := blk_frozen BK227.out 0
         have hfz28_1 := blk_frozen BK227.out 1
         have hfz28_2 := blk_frozen BK227.out 2
         have hfz28_3 := blk_frozen BK227.out 3
         have hfz28_4 := blk_frozen BK227.out 4
         go_wp2
         go_ret
         exact ⟨eq_, bl_⟩
        ·rw [if_neg c27] at H
         have c27b0 : decide (a3 < a0_1) = false := decide_eq_false c27
         clear c27
         by_cases c29 : (IntKind.u64.wrap (a3 - a0_1)) > a4
         ·rw [if_pos c29] at H
          have c29b0 : decide (a4 < (IntKind.u64.wrap (a3 - a0_1))) = true := decide_eq_true c29
          clear c29
          obtain rfl := Option.some.inj H
          have hcz30_0 : wc.cell? ⟨gb227, 0, none⟩ = some (.string a0_0) := (blk_cell BK227.out 0).trans rfl
          have hcz30_1 : wc.cell? ⟨gb227, 1, none⟩ = some (.int .u64 a0_1) := (blk_cell BK227.out 1).trans rfl
          have hcz30_2 : wc.cell? ⟨gb227, 2, none⟩ = some (.int .i64 a0_2) := (blk_cell BK227.out 2).trans rfl
          have hcz30_3 : wc.cell? ⟨gb227, 3, none⟩ = some (.string a0_3) := (blk_cell BK227.out 3).trans rfl
          have hcz30_4 : wc.cell? ⟨gb227, 4, none⟩ = some (.string a0_4) := (blk_cell BK227.out 4).trans rfl
          have hfz30_0 := blk_frozen BK227.out 0
          have hfz30_1 := blk_frozen BK227.out 1
          have hfz30_2 := blk_frozen BK227.out 2
          have hfz30_3 := blk_frozen BK227.out 3
          have hfz30_4 := blk_frozen BK227.out 4
          go_wp2
          go_ret
          exact ⟨eq_, bl_⟩
         ·rw [if_neg c29] at H
          have c29b0 : decide (a4 < (IntKind.u64.wrap (a3 - a0_1))) = false := decide_eq_false c29
          clear c29
          obtain rfl := Option.some.inj H
          have hcz31_0 : wc.cell? ⟨gb227, 0, none⟩ = some (.string a0_0) := (blk_cell BK227.out 0).trans rfl
          have hcz31_1 : wc.cell? ⟨gb227, 1, none⟩ = some (.int .u64 a0_1) := (blk_cell BK227.out 1).trans rfl
          have hcz31_2 : wc.cell? ⟨gb227, 2, none⟩ = some (.int .i64 a0_2) := (blk_cell BK227.out 2).trans rfl
          have hcz31_3 : wc.cell? ⟨gb227, 3, none⟩ = some (.string a0_3) := (blk_cell BK227.out 3).trans rfl
          have hcz31_4 : wc.cell? ⟨gb227, 4, none⟩ = some (.string a0_4) := (blk_cell BK227.out 4).trans rfl
          have hfz31_0 := blk_frozen BK227.out 0
          have hfz31_1 := blk_frozen BK227.out 1
          have hfz31_2 := blk_frozen BK227.out 2
          have hfz31_3 := blk_frozen BK227.out 3
          have hfz31_4 := blk_frozen BK227.out 4
          go_wp2
          go_ret
          exact ⟨eq_, bl_⟩
       ·rw [if_neg c26] at H
        have c26b0 : (a0_0.toList == a2.toList) = false := beq_eq_false_iff_ne.mpr c26
        have c26b1 : (a0_0.toList != a2.toList) = true := bne_iff_ne.mpr c26
        obtain rfl := Option.some.inj H
        have hcz32_0 : wc.cell? ⟨gb227, 0, none⟩ = some (.string a0_0) := (blk_cell BK227.out 0).trans rfl
        have hcz32_1 : wc.cell? ⟨gb227, 1, none⟩ = some (.int .u64 a0_1) := (blk_cell BK227.out 1).trans rfl
        have hcz32_2 : wc.cell? ⟨gb227, 2, none⟩ = some (.int .i64 a0_2) := (blk_cell BK227.out 2).trans rfl
        have hcz32_3 : wc.cell? ⟨gb227, 3, none⟩ = some (.string a0_3) := (blk_cell BK227.out 3).trans rfl
        have hcz32_4 : wc.cell? ⟨gb227, 4, none⟩ = some (.string a0_4) := (blk_cell BK227.out 4).trans rfl
        have hfz32_0 := blk_frozen BK227.out 0
        have hfz32_1 := blk_frozen BK227.out 1
        have hfz32_2 := blk_frozen BK227.out 2
        have hfz32_3 := blk_frozen BK227.out 3
        have hfz32_4 := blk_frozen BK227.out 4
        go_wp2
        go_ret
        exact ⟨eq_, bl_⟩
def fresh_Put.f (k : Nat) (a0_0 : ByteArray) (a0_1 : Int) (a0_2 : Int) (a0_3 : ByteArray) (a0_4 : ByteArray) : Option (ByteArray × Int) := (fresh_Right.f k a0_0 a0_1 a0_2 a0_3 a0_4).bind fun t394 => (if t394 = true then ((wire_Put.f k a0_1).bind fun t395 => ((wire_Put.f k (IntKind.u64.wrap (a0_2))).bind fun t396 => ((wire_PutAll.f k (([a0_0, t395, t396, a0_3, a0_4] : List ByteArray))).bind fun t400 => (some (t400, 0))))) else (some ((⟨#[]⟩ : ByteArray), 1)))
def fresh_Put.T3 : Bool × List (List Nat × List Nat) := (true, [([], []), ([0], [0]), ([], []), ([2], [2]), ([3], [3]), ([], []), ([5], [5]), ([6], [6]), ([7, 4], [7]), ([], []), ([9], [9]), ([], []), ([11], [11]), ([1, 4, 8, 10, 12], [1, 4, 8, 10, 12]), ([13, 8], [13]), ([14, 14, 0, 1, 2, 3, 4, 5, 6, 7, 8, 9, 10, 11, 12, 13, 14], [14]), ([15, 0, 1, 2, 3, 4, 5, 6, 7, 8, 9, 10, 11, 12, 13, 14, 15], [])])
def fresh_Put.B3 : List Nat := [0, 1, 0, 4, 12, 0, 32, 96, 252, 0, 512, 0, 2048, 8191, 16383, 32767, 65535]
theorem fresh_Put.tab3 : rtab .any (opsOf Tryz.f9 3) = fresh_Put.T3 := by kernel_rfl
theorem fresh_Put.bits3 : waitsOk fresh_Put.T3.2 fresh_Put.B3 = true := by kernel_rfl
set_option maxHeartbeats 8000000 in
set_option maxRecDepth 100000 in
theorem fresh_Put.calls (k : Nat) (a0_0 : ByteArray) (a0_1 : Int) (a0_2 : Int) (a0_3 : ByteArray) (a0_4 : ByteArray) (r1 : ByteArray) (r2 : Int) (w : World) (h : fresh_Put.f k a0_0 a0_1 a0_2 a0_3 a0_4 = some (r1, r2)) (hV : Laid8 w) :
  Calls Tryz.prog 9 #[.agg #[.string a0_0, .int .u64 a0_1, .int .i64 a0_2, .string a0_3, .string a0_4]] w fun e w' => e = .returned (.tuple #[.string r1, .int .i64 r2]) ∧ Below w.heap.size w w' := by
 have HV := Aside0.mk hV
 clear hV
 have hu24 := Tryz.underlying24
 have HB := Aside0.mk (Below.refl w.heap.size w)
 unfold fresh_Put.f at h
 have H := h
 clear h
 replace H := Option.bind_eq_some_iff.mp H
 obtain ⟨t394, A20, H⟩ := H
 try dsimp only at H
 have A2 := Aside0.mk A20
 clear A20
 by_cases c3 : t394 = true
 ·subst c3
  rw [if_pos rfl] at H
  replace H := Option.bind_eq_some_iff.mp H
  obtain ⟨t395, A40, H⟩ := H
  try dsimp only at H
  have A4 := Aside0.mk A40
  clear A40
  replace H := Option.bind_eq_some_iff.mp H
  obtain ⟨t396, A50, H⟩ := H
  try dsimp only at H
  have A5 := Aside0.mk A50
  clear A50
  obtain ⟨y397, hy397⟩ : ∃ y_ : List ByteArray, y_ = (([a0_0, t395, t396, a0_3, a0_4] : List ByteArray)) := ⟨_, rfl⟩
  replace H : ((wire_PutAll.f k y397).bind fun t400 => (some (t400, 0))) = some (r1, r2) := by first | (rw [hy397]; with_reducible exact H) | (have H2_ := (Option.bind_some _ _).symm.trans H; rw [hy397]; with_reducible exact H2_) | (have H2_ := (Option.bind_some _ _).symm.trans H; with_reducible exact H2_) | with_reducible exact H | (rw [hy397]; exact H) | exact H
  have Ny397 := Aside0.mk hy397
  clear hy397
  replace H := Option.bind_eq_some_iff.mp H
  obtain ⟨t400, A60, H⟩ := H
  try dsimp only at H
  have A6 := Aside0.mk A60
  clear A60
  simp only [Option.some.injEq, Prod.mk.injEq] at H
  obtain ⟨rfl, rfl⟩ := H
  go_enter Tryz.func9, Tryz.ntmps9
  try go_wp2_with (first | ((with_reducible refine gate_dst (N := 1) rfl ?_); refine box_event ?hg (N := 1) ?hd (cs := #[.string a0_0, .int .u64 a0_1, .int .i64 a0_2, .string a0_3, .string a0_4]) (t := 24) ?hr ?_; (case hd => rfl); (case hg => rfl); (case hr => first | (go_simp; done) | (go_simp; rfl)); intro gb393 hg w7 hbox hb; have n0_ := Aside0.mk (below_step bl_ hb); have n1_ := Aside0.mk (hbox); have n2_ := Aside0.mk ((by rw [hg]; exact (below_size bl_) : w.heap.size ≤ gb393)); have n3_ := Aside0.mk ((by rw [hg]; exact (below_size bl_) : w.heap.size ≤ gb393)); clear HB; have HB := n0_; have BK393 := n1_; have GW393 := n2_; have GE393 := n3_; clear n0_ n1_ n2_ n3_; clear hb hbox hg; have hcz8_0 : w7.cell? ⟨gb393, 0, none⟩ = some (.string a0_0) := (blk_cell BK393.out 0).trans rfl; have hcz8_1 : w7.cell? ⟨gb393, 1, none⟩ = some (.int .u64 a0_1) := (blk_cell BK393.out 1).trans rfl; have hcz8_2 : w7.cell? ⟨gb393, 2, none⟩ = some (.int .i64 a0_2) := (blk_cell BK393.out 2).trans rfl; have hcz8_3 : w7.cell? ⟨gb393, 3, none⟩ = some (.string a0_3) := (blk_cell BK393.out 3).trans rfl; have hcz8_4 : w7.cell? ⟨gb393, 4, none⟩ = some (.string a0_4) := (blk_cell BK393.out 4).trans rfl; have hfz8_0 := blk_frozen BK393.out 0; have hfz8_1 := blk_frozen BK393.out 1; have hfz8_2 := blk_frozen BK393.out 2; have hfz8_3 := blk_frozen BK393.out 3; have hfz8_4 := blk_frozen BK393.out 4) | ((with_reducible refine gate_callee (f := 13) rfl ?_); refine gL (some 5) Tryz.func13 #[.agg #[.string a0_0, .int .u64 a0_1, .int .i64 a0_2, .string a0_3, .string a0_4]] rfl ?_; (with_reducible refine (fresh_Right.calls k a0_0 a0_1 a0_2 a0_3 a0_4 true _ A2.out ?sidev).mono ?_); (case sidev => exact Laid8.below HV.out bl_); rintro e w9 ⟨rfl, hb⟩; refine ⟨_, rfl, ?_⟩; have n0_ := Aside0.mk (blk_below (g := gb393) (o := .cells #[.string a0_0, .int .u64 a0_1, .int .i64 a0_2, .string a0_3, .string a0_4] 24 (0, 0)) kl_ hb); have n1_ := Aside0.mk (below_step bl_ hb); clear BK393; clear HB; have BK393 := n0_; have HB := n1_; clear n0_ n1_; (try clear hb)))
  have n0_ := Aside0.mk (blk_drew BK393.out)
  have n1_ := Aside0.mk (below_drew1 HB.out)
  clear BK393
  clear HB
  have BK393 := n0_
  have HB := n1_
  clear n0_ n1_
  refine start_ (n := 17) (S := fun w' => w'.cell? ⟨gb393, 0, none⟩ = some (.string a0_0) ∧ w'.cell? ⟨gb393, 1, none⟩ = some (.int .u64 a0_1) ∧ w'.cell? ⟨gb393, 2, none⟩ = some (.int .i64 a0_2) ∧ w'.cell? ⟨gb393, 3, none⟩ = some (.string a0_3) ∧ w'.cell? ⟨gb393, 4, none⟩ = some (.string a0_4)) (ds := []) #[false, false, false, false, false, false, false, false, false, false, false, false, false, false, false, false, false] (by kernel_rfl) rfl rfl ⟨(blk_cell BK393.out 0).trans rfl, (blk_cell BK393.out 1).trans rfl, (blk_cell BK393.out 2).trans rfl, (blk_cell BK393.out 3).trans rfl, (blk_cell BK393.out 4).trans rfl⟩ (fun hHeld => ?_); refine with_tabW fresh_Put.tab3 fresh_Put.bits3 (fun HT_ HW_ => ?_)
  generalize w9.drew = w10 at BK393 HB hHeld ⊢
  refine pS (i := 0) (N := some 7) (bn 17 1) rfl HT_.out ?_
  refine pS (i := 2) (N := some 9) (bn 17 5) rfl HT_.out ?_
  refine pS (i := 5) (N := some 12) (bn 17 37) rfl HT_.out ?_
  refine pS (i := 9) (N := some 16) (bn 17 549) rfl HT_.out ?_
  refine pS (i := 11) (N := some 18) (bn 17 2597) rfl HT_.out ?_
  refine tS (i := 1) (N := some 8) (bn 17 2599) rfl HT_.out HW_.out hHeld (fun w' ⟨s0, s1, s2, s3, s4⟩ => by go_simp; with_reducible rfl) ?_
  refine tS (i := 3) (N := some 10) (bn 17 2607) rfl HT_.out HW_.out hHeld (fun w' ⟨s0, s1, s2, s3, s4⟩ => by go_simp; with_reducible rfl) ?_
  refine tS (i := 6) (N := some 13) (bn 17 2671) rfl HT_.out HW_.out hHeld (fun w' ⟨s0, s1, s2, s3, s4⟩ => by go_simp; with_reducible rfl) ?_
  refine pS (i := 7) (N := some 14) (bn 17 2799) rfl HT_.out ?_
  refine tS (i := 10) (N := some 17) (bn 17 3823) rfl HT_.out HW_.out hHeld (fun w' ⟨s0, s1, s2, s3, s4⟩ => by go_simp; with_reducible rfl) ?_
  refine tS (i := 12) (N := some 19) (bn 17 7919) rfl HT_.out HW_.out hHeld (fun w' ⟨s0, s1, s2, s3, s4⟩ => by go_simp; with_reducible rfl) ?_
  refine oS (i := 4) (N := some 11) (bn 17 7935) rfl HT_.out (fun K hK => ?_)
  refine gS Tryz.func34 #[.int .u64 a0_1] rfl ?_
  with_reducible refine (wire_Put.calls k a0_1 t395 _ A4.out).mono ?_
  rintro e w11 ⟨rfl, hb⟩
  refine ⟨_, rfl, ?_⟩
  have n0_ := Aside0.mk (blk_below (g := gb393) (o := .cells #[.string a0_0, .int .u64 a0_1, .int .i64 a0_2, .string a0_3, .string a0_4] 24 (0, 0)) kl_ hb)
  have n1_ := Aside0.mk (below_step bl_ hb)
  clear BK393
  clear HB
  have BK393 := n0_
  have HB := n1_
  clear n0_ n1_
  (try clear hb)
  (try clear hb2)
  (try clear hk)
  (try clear hi)
  refine hK.out _ _ ⟨(blk_cell BK393.out 0).trans rfl, (blk_cell BK393.out 1).trans rfl, (blk_cell BK393.out 2).trans rfl, (blk_cell BK393.out 3).trans rfl, (blk_cell BK393.out 4).trans rfl⟩ (fun hHeld => ?_)
  clear hK K
  refine nS (some 11) ?_
  refine oS (i := 8) (N := some 15) (bn 17 8191) rfl HT_.out (fun K hK => ?_)
  refine gS Tryz.func34 #[.int .u64 (IntKind.u64.wrap (a0_2))] rfl ?_
  with_reducible refine (wire_Put.calls k (IntKind.u64.wrap (a0_2)) t396 _ A5.out).mono ?_
  rintro e w12 ⟨rfl, hb⟩
  refine ⟨_, rfl, ?_⟩
  have n0_ := Aside0.mk (blk_below (g := gb393) (o := .cells #[.string a0_0, .int .u64 a0_1, .int .i64 a0_2, .string a0_3, .string a0_4] 24 (0, 0)) kl_ hb)
  have n1_ := Aside0.mk (below_step bl_ hb)
  clear BK393
  clear HB
  have BK393 := n0_
  have HB := n1_
  clear n0_ n1_
  (try clear hb)
  (try clear hb2)
  (try clear hk)
  (try clear hi)
  refine hK.out _ _ ⟨(blk_cell BK393.out 0).trans rfl, (blk_cell BK393.out 1).trans rfl, (blk_cell BK393.out 2).trans rfl, (blk_cell BK393.out 3).trans rfl, (blk_cell BK393.out 4).trans rfl⟩ (fun hHeld => ?_)
  clear hK K
  refine nS (some 15) ?_
  refine oS (i := 13) (N := some 20) (bn 17 16383) rfl HT_.out (fun K hK => ?_)
  refine Kd.R_lit_step Kd.string _ 9 ?hg (N := 20) ?hd (xs := ([a0_0, t395, t396, a0_3, a0_4] : List ByteArray)) (inner := [.string a0_0, .string t395, .string t396, .string a0_3, .string a0_4]) (ok := fun _ => True) (okp := fun _ => True) ?hr ?hp (fun _ hk => hk) trivial (Below.refl _ _) (Nat.le_refl _) (by simp) ?_; (case hd => rfl); (case hg => rfl); (case hr => first | (go_simp; done) | (go_simp; rfl)); (case hp => exact (Reps.one (show Kd.M Kd.string _ _ _ a0_0 [.string a0_0] from rfl) (Reps.one (show Kd.M Kd.string _ _ _ t395 [.string t395] from rfl) (Reps.one (show Kd.M Kd.string _ _ _ t396 [.string t396] from rfl) (Reps.one (show Kd.M Kd.string _ _ _ a0_3 [.string a0_3] from rfl) (Reps.one (show Kd.M Kd.string _ _ _ a0_4 [.string a0_4] from rfl) (Reps.none _ _)))))))
  intro v398 w13 ho14 hb hg_ hnew_
  clear hg_ hnew_
  (first | rw [← Ny397.out] at ho14 | (simp only [Int.reduceToNat] at ho14; rw [← Ny397.out] at ho14))
  have n0_ := Aside0.mk (Kd.R_lower ho14 (below_size bl_))
  have n1_ := Aside0.mk (blk_below (g := gb393) (o := .cells #[.string a0_0, .int .u64 a0_1, .int .i64 a0_2, .string a0_3, .string a0_4] 24 (0, 0)) kl_ hb)
  have n2_ := Aside0.mk (below_step bl_ hb)
  clear BK393
  clear HB
  have HO399 := n0_
  have BK393 := n1_
  have HB := n2_
  clear n0_ n1_ n2_
  clear hb ho14
  obtain ⟨Ao15, co15, eo15⟩ := Kd.R_slice HO399.out
  (first | subst eo15 | (injection eo15 with f1_ f2_ f3_; have f4_ := f1_.symm; have f5_ := f3_.symm; clear f1_ f2_ f3_; subst f4_; subst f5_))
  refine hK.out _ _ ⟨(blk_cell BK393.out 0).trans rfl, (blk_cell BK393.out 1).trans rfl, (blk_cell BK393.out 2).trans rfl, (blk_cell BK393.out 3).trans rfl, (blk_cell BK393.out 4).trans rfl⟩ (fun hHeld => ?_)
  clear hK K
  refine nS (some 20) ?_
  refine oS (i := 14) (N := some 21) (bn 17 32767) rfl HT_.out (fun K hK => ?_)
  refine gS Tryz.func33 #[.slice Ao15 y397.length co15] rfl ?_
  with_reducible refine (wire_PutAll.calls k _ _ y397 t400 _ ?side1 ?side2 A6.out).mono ?_
  (case side1 => repeat (first | exact (Kd.R_reads' HO399.out).2.2 | (with_reducible refine Kd.C_alloc ?_ _) | (with_reducible refine Kd.C_drewN ?_ _) | (with_reducible refine Kd.C_drew ?_)))
  (case side2 => exact (Kd.R_reads' HO399.out).2.1)
  rintro e w16 ⟨rfl, hb⟩
  refine ⟨_, rfl, ?_⟩
  have n0_ := Aside0.mk (Kd.R_below (by (with_reducible repeat (first | apply Kd.R_alloc | apply Kd.R_drewN | apply Kd.R_drew)); exact HO399.out) hb)
  have n1_ := Aside0.mk (blk_below (g := gb393) (o := .cells #[.string a0_0, .int .u64 a0_1, .int .i64 a0_2, .string a0_3, .string a0_4] 24 (0, 0)) kl_ hb)
  have n2_ := Aside0.mk (below_step bl_ hb)
  clear HO399
  clear BK393
  clear HB
  have HO399 := n0_
  have BK393 := n1_
  have HB := n2_
  clear n0_ n1_ n2_
  (try clear hb)
  (try clear hb2)
  (try clear hk)
  (try clear hi)
  refine hK.out _ _ ⟨(blk_cell BK393.out 0).trans rfl, (blk_cell BK393.out 1).trans rfl, (blk_cell BK393.out 2).trans rfl, (blk_cell BK393.out 3).trans rfl, (blk_cell BK393.out 4).trans rfl⟩ (fun hHeld => ?_)
  clear hK K
  refine nS (some 21) ?_
  refine pS (i := 15) (N := some 2) (bn 17 65535) rfl HT_.out ?_
  refine pS (i := 16) (N := some 3) (bn 17 131071) rfl HT_.out ?_
  refine done_ (done_of HT_.out (by kernel_rfl)) ?_
  try go_wp2
  go_ret2
  exact ⟨eq_, bl_⟩
 ·replace c3 := Bool.eq_false_iff.mpr c3
  subst c3
  rw [if_neg (show ¬ (false = true) by decide)] at H
  simp only [Option.some.injEq, Prod.mk.injEq] at H
  obtain ⟨rfl, rfl⟩ := H
  go_enter Tryz.func9, Tryz.ntmps9
  go_wp2_with (first | ((with_reducible refine gate_dst (N := 1) rfl ?_); refine box_event ?hg (N := 1) ?hd (cs := #[.string a0_0, .int .u64 a0_1, .int .i64 a0_2, .string a0_3, .string a0_4]) (t := 24) ?hr ?_; (case hd => rfl); (case hg => rfl); (case hr => first | (go_simp; done) | (go_simp; rfl)); intro gb393 hg w17 hbox hb; have n0_ := Aside0.mk (below_step bl_ hb); have n1_ := Aside0.mk (hbox); have n2_ := Aside0.mk ((by rw [hg]; exact (below_size bl_) : w.heap.size ≤ gb393)); have n3_ := Aside0.mk ((by rw [hg]; exact (below_size bl_) : w.heap.size ≤ gb393)); clear HB; have HB := n0_; have BK393 := n1_; have GW393 := n2_; have GE393 := n3_; clear n0_ n1_ n2_ n3_; clear hb hbox hg; have hcz18_0 : w17.cell? ⟨gb393, 0, none⟩ = some (.string a0_0) := (blk_cell BK393.out 0).trans rfl; have hcz18_1 : w17.cell? ⟨gb393, 1, none⟩ = some (.int .u64 a0_1) := (blk_cell BK393.out 1).trans rfl; have hcz18_2 : w17.cell? ⟨gb393, 2, none⟩ = some (.int .i64 a0_2) := (blk_cell BK393.out 2).trans rfl; have hcz18_3 : w17.cell? ⟨gb393, 3, none⟩ = some (.string a0_3) := (blk_cell BK393.out 3).trans rfl; have hcz18_4 : w17.cell? ⟨gb393, 4, none⟩ = some (.string a0_4) := (blk_cell BK393.out 4).trans rfl; have hfz18_0 := blk_frozen BK393.out 0; have hfz18_1 := blk_frozen BK393.out 1; have hfz18_2 := blk_frozen BK393.out 2; have hfz18_3 := blk_frozen BK393.out 3; have hfz18_4 := blk_frozen BK393.out 4) | ((with_reducible refine gate_callee (f := 13) rfl ?_); refine gL (some 5) Tryz.func13 #[.agg #[.string a0_0, .int .u64 a0_1, .int .i64 a0_2, .string a0_3, .string a0_4]] rfl ?_; (with_reducible refine (fresh_Right.calls k a0_0 a0_1 a0_2 a0_3 a0_4 false _ A2.out ?sidev).mono ?_); (case sidev => exact Laid8.below HV.out bl_); rintro e w19 ⟨rfl, hb⟩; refine ⟨_, rfl, ?_⟩; have n0_ := Aside0.mk (blk_below (g := gb393) (o := .cells #[.string a0_0, .int .u64 a0_1, .int .i64 a0_2, .string a0_3, .string a0_4] 24 (0, 0)) kl_ hb); have n1_ := Aside0.mk (below_step bl_ hb); clear BK393; clear HB; have BK393 := n0_; have HB := n1_; clear n0_ n1_; (try clear hb)))
  go_ret2
  exact ⟨eq_, bl_⟩
def fresh_Covers.f (k : Nat) (a0_0 : ByteArray) (a0_1 : Int) (a0_2 : Int) (a0_3 : ByteArray) (a0_4 : ByteArray) (a1 : Int) (a2 : ByteArray) (l3 : List ByteArray) : Option (Bool) := (fresh_Right.f k a0_0 a0_1 a0_2 a0_3 a0_4).bind fun t453 => (if t453 = true then ((tree_Verify.f k a0_3 a0_2 a1 a2 l3).bind fun t454 => (some t454)) else (some false))
set_option maxHeartbeats 8000000 in
set_option maxRecDepth 100000 in
theorem fresh_Covers.calls (k : Nat) (a0_0 : ByteArray) (a0_1 : Int) (a0_2 : Int) (a0_3 : ByteArray) (a0_4 : ByteArray) (a1 : Int) (a2 : ByteArray) (A3 : Option Addr) (c3 : Nat) (l3 : List ByteArray) (r : Bool) (w : World) (hr3 : Kd.C Kd.string w A3 l3.length l3) (hc3 : l3.length ≤ c3) (h : fresh_Covers.f k a0_0 a0_1 a0_2 a0_3 a0_4 a1 a2 l3 = some r) (hV : Laid8 w) :
  Calls Tryz.prog 17 #[.agg #[.string a0_0, .int .u64 a0_1, .int .i64 a0_2, .string a0_3, .string a0_4], .int .i64 a1, .string a2, .slice A3 l3.length c3] w fun e w' => e = .returned (.bool r) ∧ Below w.heap.size w w' := by
 have HV := Aside0.mk hV
 clear hV
 have hu24 := Tryz.underlying24
 have HR3 := Aside0.mk hr3
 have HC3 := Aside0.mk hc3
 clear hr3 hc3
 have HB := Aside0.mk (Below.refl w.heap.size w)
 unfold fresh_Covers.f at h
 have H := h
 clear h
 replace H := Option.bind_eq_some_iff.mp H
 obtain ⟨t453, A50, H⟩ := H
 try dsimp only at H
 have A5 := Aside0.mk A50
 clear A50
 by_cases c6 : t453 = true
 ·subst c6
  rw [if_pos rfl] at H
  replace H := Option.bind_eq_some_iff.mp H
  obtain ⟨t454, A70, H⟩ := H
  try dsimp only at H
  have A7 := Aside0.mk A70
  clear A70
  obtain rfl := Option.some.inj H
  go_enter Tryz.func17, Tryz.ntmps17
  go_wp2_with (first | ((with_reducible refine gate_dst (N := 4) rfl ?_); refine box_event ?hg (N := 4) ?hd (cs := #[.string a0_0, .int .u64 a0_1, .int .i64 a0_2, .string a0_3, .string a0_4]) (t := 24) ?hr ?_; (case hd => rfl); (case hg => rfl); (case hr => first | (go_simp; done) | (go_simp; rfl)); intro gb452 hg w8 hbox hb; have n0_ := Aside0.mk (below_step bl_ hb); have n1_ := Aside0.mk (hbox); have n2_ := Aside0.mk ((by rw [hg]; exact (below_size bl_) : w.heap.size ≤ gb452)); have n3_ := Aside0.mk ((by rw [hg]; exact (below_size bl_) : w.heap.size ≤ gb452)); clear HB; have HB := n0_; have BK452 := n1_; have GW452 := n2_; have GE452 := n3_; clear n0_ n1_ n2_ n3_; clear hb hbox hg; have hcz9_0 : w8.cell? ⟨gb452, 0, none⟩ = some (.string a0_0) := (blk_cell BK452.out 0).trans rfl; have hcz9_1 : w8.cell? ⟨gb452, 1, none⟩ = some (.int .u64 a0_1) := (blk_cell BK452.out 1).trans rfl; have hcz9_2 : w8.cell? ⟨gb452, 2, none⟩ = some (.int .i64 a0_2) := (blk_cell BK452.out 2).trans rfl; have hcz9_3 : w8.cell? ⟨gb452, 3, none⟩ = some (.string a0_3) := (blk_cell BK452.out 3).trans rfl; have hcz9_4 : w8.cell? ⟨gb452, 4, none⟩ = some (.string a0_4) := (blk_cell BK452.out 4).trans rfl; have hfz9_0 := blk_frozen BK452.out 0; have hfz9_1 := blk_frozen BK452.out 1; have hfz9_2 := blk_frozen BK452.out 2; have hfz9_3 := blk_frozen BK452.out 3; have hfz9_4 := blk_frozen BK452.out 4) | ((with_reducible refine gate_callee (f := 13) rfl ?_); refine gL (some 10) Tryz.func13 #[.agg #[.string a0_0, .int .u64 a0_1, .int .i64 a0_2, .string a0_3, .string a0_4]] rfl ?_; (with_reducible refine (fresh_Right.calls k a0_0 a0_1 a0_2 a0_3 a0_4 true _ A5.out ?sidev).mono ?_); (case sidev => exact Laid8.below HV.out bl_); rintro e w10 ⟨rfl, hb⟩; refine ⟨_, rfl, ?_⟩; have n0_ := Aside0.mk (blk_below (g := gb452) (o := .cells #[.string a0_0, .int .u64 a0_1, .int .i64 a0_2, .string a0_3, .string a0_4] 24 (0, 0)) kl_ hb); have n1_ := Aside0.mk (below_step bl_ hb); clear BK452; clear HB; have BK452 := n0_; have HB := n1_; clear n0_ n1_; (try clear hb); have hcz11_0 : w10.cell? ⟨gb452, 0, none⟩ = some (.string a0_0) := (blk_cell BK452.out 0).trans rfl; have hcz11_1 : w10.cell? ⟨gb452, 1, none⟩ = some (.int .u64 a0_1) := (blk_cell BK452.out 1).trans rfl; have hcz11_2 : w10.cell? ⟨gb452, 2, none⟩ = some (.int .i64 a0_2) := (blk_cell BK452.out 2).trans rfl; have hcz11_3 : w10.cell? ⟨gb452, 3, none⟩ = some (.string a0_3) := (blk_cell BK452.out 3).trans rfl; have hcz11_4 : w10.cell? ⟨gb452, 4, none⟩ = some (.string a0_4) := (blk_cell BK452.out 4).trans rfl; have hfz11_0 := blk_frozen BK452.out 0; have hfz11_1 := blk_frozen BK452.out 1; have hfz11_2 := blk_frozen BK452.out 2; have hfz11_3 := blk_frozen BK452.out 3; have hfz11_4 := blk_frozen BK452.out 4) | (go_at_call 44; (with_reducible refine (tree_Verify.calls k a0_3 a0_2 a1 a2 _ _ l3 t454 _ ?side1 ?side2 A7.out).mono ?_); (case side1 => repeat (first | exact (Kd.C_below HR3.out HB.out) | (with_reducible refine Kd.C_alloc ?_ _) | (with_reducible refine Kd.C_drewN ?_ _) | (with_reducible refine Kd.C_drew ?_))); (case side2 => exact HC3.out); rintro e w12 ⟨rfl, hb⟩; have n0_ := Aside0.mk (blk_below (g := gb452) (o := .cells #[.string a0_0, .int .u64 a0_1, .int .i64 a0_2, .string a0_3, .string a0_4] 24 (0, 0)) kl_ hb); have n1_ := Aside0.mk (below_step bl_ hb); clear BK452; clear HB; have BK452 := n0_; have HB := n1_; clear n0_ n1_; (try clear hb)))
  go_ret
  exact ⟨eq_, bl_⟩
 ·replace c6 := Bool.eq_false_iff.mpr c6
  subst c6
  rw [if_neg (show ¬ (false = true) by decide)] at H
  obtain rfl := Option.some.inj H
  go_enter Tryz.func17, Tryz.ntmps17
  go_wp2_with (first | ((with_reducible refine gate_dst (N := 4) rfl ?_); refine box_event ?hg (N := 4) ?hd (cs := #[.string a0_0, .int .u64 a0_1, .int .i64 a0_2, .string a0_3, .string a0_4]) (t := 24) ?hr ?_; (case hd => rfl); (case hg => rfl); (case hr => first | (go_simp; done) | (go_simp; rfl)); intro gb452 hg w13 hbox hb; have n0_ := Aside0.mk (below_step bl_ hb); have n1_ := Aside0.mk (hbox); have n2_ := Aside0.mk ((by rw [hg]; exact (below_size bl_) : w.heap.size ≤ gb452)); have n3_ := Aside0.mk ((by rw [hg]; exact (below_size bl_) : w.heap.size ≤ gb452)); clear HB; have HB := n0_; have BK452 := n1_; have GW452 := n2_; have GE452 := n3_; clear n0_ n1_ n2_ n3_; clear hb hbox hg; have hcz14_0 : w13.cell? ⟨gb452, 0, none⟩ = some (.string a0_0) := (blk_cell BK452.out 0).trans rfl; have hcz14_1 : w13.cell? ⟨gb452, 1, none⟩ = some (.int .u64 a0_1) := (blk_cell BK452.out 1).trans rfl; have hcz14_2 : w13.cell? ⟨gb452, 2, none⟩ = some (.int .i64 a0_2) := (blk_cell BK452.out 2).trans rfl; have hcz14_3 : w13.cell? ⟨gb452, 3, none⟩ = some (.string a0_3) := (blk_cell BK452.out 3).trans rfl; have hcz14_4 : w13.cell? ⟨gb452, 4, none⟩ = some (.string a0_4) := (blk_cell BK452.out 4).trans rfl; have hfz14_0 := blk_frozen BK452.out 0; have hfz14_1 := blk_frozen BK452.out 1; have hfz14_2 := blk_frozen BK452.out 2; have hfz14_3 := blk_frozen BK452.out 3; have hfz14_4 := blk_frozen BK452.out 4) | ((with_reducible refine gate_callee (f := 13) rfl ?_); refine gL (some 10) Tryz.func13 #[.agg #[.string a0_0, .int .u64 a0_1, .int .i64 a0_2, .string a0_3, .string a0_4]] rfl ?_; (with_reducible refine (fresh_Right.calls k a0_0 a0_1 a0_2 a0_3 a0_4 false _ A5.out ?sidev).mono ?_); (case sidev => exact Laid8.below HV.out bl_); rintro e w15 ⟨rfl, hb⟩; refine ⟨_, rfl, ?_⟩; have n0_ := Aside0.mk (blk_below (g := gb452) (o := .cells #[.string a0_0, .int .u64 a0_1, .int .i64 a0_2, .string a0_3, .string a0_4] 24 (0, 0)) kl_ hb); have n1_ := Aside0.mk (below_step bl_ hb); clear BK452; clear HB; have BK452 := n0_; have HB := n1_; clear n0_ n1_; (try clear hb)))
  go_ret
  exact ⟨eq_, bl_⟩
end Go.Proofs.YtodiffgpefidoaaGreatDoor.P

