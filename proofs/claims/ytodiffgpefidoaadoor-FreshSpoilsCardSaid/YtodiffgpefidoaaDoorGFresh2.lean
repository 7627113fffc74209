/- Slimmed by wip/slim.py. -/
import Derived.Test.YtodiffgpefidoaaDoorG0
import Derived.Test.YtodiffgpefidoaaDoorGFresh
import Derived.Test.YtodiffgpefidoaaDoorGFresh1
import Derived.Test.YtodiffgpefidoaaDoorGWire
namespace Go.Proofs.YtodiffgpefidoaaDoor.P
open Go.RowKit Go.Proofs.YtodiffgpefidoaaDoorW.PrintWords Go.Proofs.YtodiffgpefidoaaDoorW.PrintLast Go.Proofs.YtodiffgpefidoaaDoorW.PrintMore
attribute [local go_sem] max2_int min2_int max_two min_two max_three min_three max_four min_four
set_option linter.unusedVariables false
set_option linter.unusedSimpArgs false
theorem fresh_Take.far5 {w : World} {g : Nat} {a : Addr} (h : a.block ≠ g) (v0 v1 v2 v3 v4 : Value) : (((((w.setCell ⟨g, 0, none⟩ v0).setCell ⟨g, 1, none⟩ v1).setCell ⟨g, 2, none⟩ v2).setCell ⟨g, 3, none⟩ v3).setCell ⟨g, 4, none⟩ v4).cell? a = w.cell? a :=
 (cell_far (p := ⟨g, 4, none⟩) h _).trans ((cell_far (p := ⟨g, 3, none⟩) h _).trans ((cell_far (p := ⟨g, 2, none⟩) h _).trans ((cell_far (p := ⟨g, 1, none⟩) h _).trans (cell_far (p := ⟨g, 0, none⟩) h _))))
set_option maxHeartbeats 8000000 in
set_option maxRecDepth 100000 in
theorem fresh_Take.store5 (ev : Operand → Value) (o : Oper) (p v : Operand) (ho : o.op = .store 28 p v) (w : World) (g : Nat) (a : ByteArray) (b c : Int) (d e : ByteArray) (hp : ev p = .pointer (some ⟨g, 0, none⟩)) (hv : ev v = .agg #[.string a, .int .u64 b, .int .i64 c, .string d, .string e])
  (h : w.heap[g]? = some (.cells #[.string (⟨#[]⟩ : ByteArray), .int .u64 0, .int .i64 0, .string (⟨#[]⟩ : ByteArray), .string (⟨#[]⟩ : ByteArray)] 28 (0, 0))) :
  (execOp ev o).run Tryd.prog w = .ok .skip (((((w.setCell ⟨g, 0, none⟩ (.string a)).setCell ⟨g, 1, none⟩ (.int .u64 b)).setCell ⟨g, 2, none⟩ (.int .i64 c)).setCell ⟨g, 3, none⟩ (.string d)).setCell ⟨g, 4, none⟩ (.string e)) := by
 obtain ⟨dst, op, ty, pos, aft, gd⟩ := o
 simp only at ho
 subst ho
 have hu28 := Tryd.underlying28
 have hs27 : w.cell? ⟨g, 0, none⟩ = some (.string (⟨#[]⟩ : ByteArray)) := (blk_cell h 0).trans rfl
 have hfs27 := blk_frozen h 0
 have hs28 : w.cell? ⟨g, 1, none⟩ = some (.int .u64 0) := (blk_cell h 1).trans rfl
 have hfs28 := blk_frozen h 1
 have hs29 : w.cell? ⟨g, 2, none⟩ = some (.int .i64 0) := (blk_cell h 2).trans rfl
 have hfs29 := blk_frozen h 2
 have hs30 : w.cell? ⟨g, 3, none⟩ = some (.string (⟨#[]⟩ : ByteArray)) := (blk_cell h 3).trans rfl
 have hfs30 := blk_frozen h 3
 have hs31 : w.cell? ⟨g, 4, none⟩ = some (.string (⟨#[]⟩ : ByteArray)) := (blk_cell h 4).trans rfl
 have hfs31 := blk_frozen h 4
 clear h
 go_simp
def fresh_Take.j0 : Nat → List ByteArray → Bool → Option (ByteArray × Int × Int × ByteArray × ByteArray × Int)
 | 0, _, _ => none
 | k + 1, x4, x22 => if x22 = true then (some ((⟨#[]⟩ : ByteArray), 0, 0, (⟨#[]⟩ : ByteArray), (⟨#[]⟩ : ByteArray), 2)) else (if 1 < (x4.length : Int) then ((fresh_number.f (rdOf ByteArray.empty x4 1)).bind fun bt280 => (if 2 < (x4.length : Int) then ((fresh_number.f (rdOf ByteArray.empty x4 2)).bind fun bt283 => (if 0 < (x4.length : Int) then (if 3 < (x4.length : Int) then (if 4 < (x4.length : Int) then (if bt280.2 = true then (if bt283.2 = true then ((fresh_Right.f k (rdOf ByteArray.empty x4 0) bt280.1 (wrap64 (mn bt283.1 9)) (rdOf ByteArray.empty x4 3) (rdOf ByteArray.empty x4 4)).bind fun t289 => (if t289 = true then (some (rdOf ByteArray.empty x4 0, bt280.1, wrap64 (mn bt283.1 9), rdOf ByteArray.empty x4 3, rdOf ByteArray.empty x4 4, 0)) else (some ((⟨#[]⟩ : ByteArray), 0, 0, (⟨#[]⟩ : ByteArray), (⟨#[]⟩ : ByteArray), 2)))) else (some ((⟨#[]⟩ : ByteArray), 0, 0, (⟨#[]⟩ : ByteArray), (⟨#[]⟩ : ByteArray), 2))) else (some ((⟨#[]⟩ : ByteArray), 0, 0, (⟨#[]⟩ : ByteArray), (⟨#[]⟩ : ByteArray), 2))) else (none)) else (none)) else (none))) else (none))) else (none))
def fresh_Take.f (k : Nat) (a0 : ByteArray) : Option (ByteArray × Int × Int × ByteArray × ByteArray × Int) := (wire_TakeAll.f k a0 5 4000).bind fun bt275 => (if bt275.2 = 0 then (fresh_Take.j0 k bt275.1 ((bt275.1.length : Int) != 5)) else (fresh_Take.j0 k bt275.1 true))
def fresh_Take.T6 : Bool × List (List Nat × List Nat) := (true, [([], []), ([0], [0]), ([1], [1]), ([], []), ([], []), ([4], [4]), ([5], [5]), ([], []), ([7], [7]), ([8], [8]), ([], []), ([10], [10]), ([11], [11]), ([2, 3, 6, 9, 12], [2, 3, 6, 9, 12]), ([], []), ([14, 13, 0, 1, 2, 3, 4, 5, 6, 7, 8, 9, 10, 11, 12, 13, 14], [13, 14])])
def fresh_Take.B6 : List Nat := [0, 1, 3, 0, 0, 16, 48, 0, 128, 384, 0, 1024, 3072, 8191, 0, 32767]
theorem fresh_Take.tab6 : rtab .any (opsOf Tryd.f20 6) = fresh_Take.T6 := by kernel_rfl
theorem fresh_Take.bits6 : waitsOk fresh_Take.T6.2 fresh_Take.B6 = true := by kernel_rfl
set_option maxHeartbeats 8000000 in
set_option maxRecDepth 100000 in
theorem fresh_Take.calls (k : Nat) (a0 : ByteArray) (r1 : ByteArray) (r2 : Int) (r3 : Int) (r4 : ByteArray) (r5 : ByteArray) (r6 : Int) (w : World) (h : fresh_Take.f k a0 = some (r1, r2, r3, r4, r5, r6)) (hV : Laid8 w) :
  Calls Tryd.prog 20 #[.string a0] w fun e w' => e = .returned (.tuple #[.agg #[.string r1, .int .u64 r2, .int .i64 r3, .string r4, .string r5], .int .i64 r6]) ∧ Below w.heap.size w w' := by
 have HV := Aside0.mk hV
 clear hV
 have hu28 := Tryd.underlying28
 have HB := Aside0.mk (Below.refl w.heap.size w)
 have H : ((wire_TakeAll.f k a0 5 4000).bind fun bt275 => (if bt275.2 = 0 then (fresh_Take.j0 k bt275.1 ((bt275.1.length : Int) != 5)) else (fresh_Take.j0 k bt275.1 true))) = some (r1, r2, r3, r4, r5, r6) := h
 clear h
 replace H := Option.bind_eq_some_iff.mp H
 obtain ⟨⟨t275, t276⟩, A20, H⟩ := H
 replace H : (if t276 = 0 then (fresh_Take.j0 k t275 ((t275.length : Int) != 5)) else (fresh_Take.j0 k t275 true)) = some (r1, r2, r3, r4, r5, r6) := H
 have A2 := Aside0.mk A20
 clear A20
 have HC3 := Aside0.mk H
 clear H
 go_enter Tryd.func20, Tryd.ntmps20
 go_upto_region 2 with (first | ((with_reducible refine gate_dst (N := 2) rfl ?_); (try (refine gate_guard (by rfl) ?_; dsimp only)); refine box_event ?hg (N := 2) ?hd (cs := #[.string (⟨#[]⟩ : ByteArray), .int .u64 0, .int .i64 0, .string (⟨#[]⟩ : ByteArray), .string (⟨#[]⟩ : ByteArray)]) (t := 28) ?hr ?_; (case hd => rfl); (case hg => rfl); (case hr => first | (go_simp; done) | (go_simp; rfl)); intro gb274 hg w4 hbox hb; have n0_ := Aside0.mk (below_step (by repeat (first | (with_reducible first | exact HB.out | apply below_alloc | apply pw_below_drewN | apply below_drew1) | exact HB.out)) hb); have n1_ := Aside0.mk (hbox); have n2_ := Aside0.mk ((by rw [hg]; exact (below_size (by repeat (first | (with_reducible first | exact HB.out | apply below_alloc | apply pw_below_drewN | apply below_drew1) | exact HB.out))) : w.heap.size ≤ gb274)); have n3_ := Aside0.mk ((by rw [hg]; exact (below_size (by repeat (first | (with_reducible first | exact HB.out | apply below_alloc | apply pw_below_drewN | apply below_drew1) | exact HB.out))) : w.heap.size ≤ gb274)); clear HB; have HB := n0_; have BK274 := n1_; have GW274 := n2_; have GE274 := n3_; clear n0_ n1_ n2_ n3_; clear hb hbox hg) | ((with_reducible refine gate_callee (f := 40) rfl ?_); refine goesL_ (some 13) rfl rfl Tryd.func40 (by kernel_rfl) rfl #[.string a0, .int .i64 5, .int .i64 4000] rfl (by (try simp only [List.map_toArray, List.map_cons, List.map_nil]); first | done | rfl | (simp only [List.length_drop, List.length_take]; rfl)) ?_; (with_reducible refine (wire_TakeAll.calls k a0 5 4000 t275 t276 _ A2.out).mono ?_); rintro e w5 ⟨v277, rfl, ho0, hb⟩; refine ⟨_, rfl, ?_⟩; have n0_ := Aside0.mk (Kd.R_lower ho0 (below_size (by repeat (first | (with_reducible first | exact HB.out | apply below_alloc | apply pw_below_drewN | apply below_drew1 | refine below_set ?_ GE274.out) | exact HB.out)))); have n1_ := Aside0.mk (blk_below (g := gb274) (o := .cells #[.string (⟨#[]⟩ : ByteArray), .int .u64 0, .int .i64 0, .string (⟨#[]⟩ : ByteArray), .string (⟨#[]⟩ : ByteArray)] 28 (0, 0)) (by (with_reducible repeat (first | refine blk_drewN ?_ _ | refine blk_drew ?_ | refine blk_alloc ?_ _)); exact BK274.out) hb); have n2_ := Aside0.mk (below_step (by repeat (first | (with_reducible first | exact HB.out | apply below_alloc | apply pw_below_drewN | apply below_drew1 | refine below_set ?_ GE274.out) | exact HB.out)) hb); clear BK274; clear HB; have HO278 := n0_; have BK274 := n1_; have HB := n2_; clear n0_ n1_ n2_; (try clear hb); (try clear hb2); (try clear hk); (try clear hi); (try clear ho0)))
 (try simp only [Act.put, List.setIfInBounds_toArray, List.set_cons_zero, List.set_cons_succ])
 go_cut [22] (fun v22 wc => ∃ (kq : Nat) (x22_2 : Bool), v22 = .bool x22_2 ∧ Aside0 (fresh_Take.j0 kq t275 x22_2 = some (r1, r2, r3, r4, r5, r6)) ∧ Aside0 (kq ≤ k) ∧ Aside0 (Kd.R Kd.string 9 wc w.heap.size (fun _ => True) v277 t275) ∧ Aside0 (wc.heap[gb274]? = some (.cells #[.string (⟨#[]⟩ : ByteArray), .int .u64 0, .int .i64 0, .string (⟨#[]⟩ : ByteArray), .string (⟨#[]⟩ : ByteArray)] 28 (0, 0))) ∧ Aside0 (Below w.heap.size w wc))
 case first =>
  have H := HC3.out
  clear HC3
  by_cases c6 : t276 = 0
  ·rw [if_pos c6] at H
   have c6b0 : (t276 == 0) = true := beq_iff_eq.mpr c6
   have c6b1 : (t276 != 0) = false := bne_eq_false_iff_eq.mpr c6
   clear c6
   (first | rw [c6b0] | (simp only [i64_w, i32_w]; rw [c6b0]) | rw [c6b1] | skip)
   have H' := Aside0.mk H
   clear H
   obtain ⟨Ao7, co7, eo7⟩ := Kd.R_slice HO278.out
   subst eo7
   go_wp2
   go_meet
   case rel => exact ⟨_, (((t275.length : Int) != 5)), (by first | rfl | (simp; done) | (simp [*]; done) | (simp; exact isEmpty_ne _)), H', ⟨by first | omega | exact Nat.le_refl _⟩, ⟨by (with_reducible repeat (first | apply Kd.R_alloc | apply Kd.R_drewN | apply Kd.R_drew)); exact HO278.out⟩, ⟨by (with_reducible repeat (first | refine blk_drewN ?_ _ | refine blk_drew ?_ | refine blk_alloc ?_ _)); exact BK274.out⟩, ⟨by repeat (first | (with_reducible first | exact HB.out | apply below_alloc | apply pw_below_drewN | apply below_drew1 | refine below_set ?_ GE274.out) | exact HB.out)⟩⟩
  ·rw [if_neg c6] at H
   have c6b0 : (t276 == 0) = false := beq_eq_false_iff_ne.mpr c6
   have c6b1 : (t276 != 0) = true := bne_iff_ne.mpr c6
   (first | rw [c6b0] | (simp only [i64_w, i32_w]; rw [c6b0]) | rw [c6b1] | skip)
   have H' := Aside0.mk H
   clear H
   go_wp2
   go_meet
   case rel => exact ⟨_, (true), (by first | rfl | (simp; done) | (simp [*]; done) | (simp; exact isEmpty_ne _)), H', ⟨by first | omega | exact Nat.le_refl _⟩, ⟨by (with_reducible repeat (first | apply Kd.R_alloc | apply Kd.R_drewN | apply Kd.R_drew)); exact HO278.out⟩, ⟨by (with_reducible repeat (first | refine blk_drewN ?_ _ | refine blk_drew ?_ | refine blk_alloc ?_ _)); exact BK274.out⟩, ⟨by repeat (first | (with_reducible first | exact HB.out | apply below_alloc | apply pw_below_drewN | apply below_drew1 | refine below_set ?_ GE274.out) | exact HB.out)⟩⟩
 case rest =>
  clear HC3
  try clear c2
  try clear p2
  try clear c4
  try clear c6
  try clear c6b0
  try clear c6b1
  obtain ⟨kq, x22_2, rfl, HA, HJ2, HO_4, BK274, HB⟩ := hcut
  cases kq with
  | zero => exact absurd HA.out (by simp [fresh_Take.j0])
  | succ kj2 =>
   have H := HA.out
   clear HA
   simp only [fresh_Take.j0] at H
   by_cases c8 : x22_2 = true
   ·subst c8
    have H1 : (some ((⟨#[]⟩ : ByteArray), 0, 0, (⟨#[]⟩ : ByteArray), (⟨#[]⟩ : ByteArray), 2)) = some (r1, r2, r3, r4, r5, r6) := by rw [if_pos rfl] at H; exact H
    clear H
    have H := H1
    clear H1
    simp only [Option.some.injEq, Prod.mk.injEq] at H
    obtain ⟨rfl, rfl, rfl, rfl, rfl, rfl⟩ := H
    have hcz9_0 : wc.cell? ⟨gb274, 0, none⟩ = some (.string (⟨#[]⟩ : ByteArray)) := (blk_cell BK274.out 0).trans rfl
    have hcz9_1 : wc.cell? ⟨gb274, 1, none⟩ = some (.int .u64 0) := (blk_cell BK274.out 1).trans rfl
    have hcz9_2 : wc.cell? ⟨gb274, 2, none⟩ = some (.int .i64 0) := (blk_cell BK274.out 2).trans rfl
    have hcz9_3 : wc.cell? ⟨gb274, 3, none⟩ = some (.string (⟨#[]⟩ : ByteArray)) := (blk_cell BK274.out 3).trans rfl
    have hcz9_4 : wc.cell? ⟨gb274, 4, none⟩ = some (.string (⟨#[]⟩ : ByteArray)) := (blk_cell BK274.out 4).trans rfl
    have hfz9_0 := blk_frozen BK274.out 0
    have hfz9_1 := blk_frozen BK274.out 1
    have hfz9_2 := blk_frozen BK274.out 2
    have hfz9_3 := blk_frozen BK274.out 3
    have hfz9_4 := blk_frozen BK274.out 4
    go_wp2
    refine bodyPost_ret (results_ct rfl _ _ gb274 28 #[.string (⟨#[]⟩ : ByteArray), .int .u64 0, .int .i64 0, .string (⟨#[]⟩ : ByteArray), .string (⟨#[]⟩ : ByteArray)] (0, 0) _ rfl (by (with_reducible repeat (first | refine blk_drewN ?_ _ | refine blk_drew ?_ | refine blk_alloc ?_ _)); refine blk_put (cs := #[.string (⟨#[]⟩ : ByteArray), .int .u64 0, .int .i64 0, .string (⟨#[]⟩ : ByteArray), .string (⟨#[]⟩ : ByteArray)]) ?_ 4 _ rfl; (with_reducible repeat (first | refine blk_drewN ?_ _ | refine blk_drew ?_ | refine blk_alloc ?_ _)); refine blk_put (cs := #[.string (⟨#[]⟩ : ByteArray), .int .u64 0, .int .i64 0, .string (⟨#[]⟩ : ByteArray), .string (⟨#[]⟩ : ByteArray)]) ?_ 3 _ rfl; (with_reducible repeat (first | refine blk_drewN ?_ _ | refine blk_drew ?_ | refine blk_alloc ?_ _)); refine blk_put (cs := #[.string (⟨#[]⟩ : ByteArray), .int .u64 0, .int .i64 0, .string (⟨#[]⟩ : ByteArray), .string (⟨#[]⟩ : ByteArray)]) ?_ 2 _ rfl; (with_reducible repeat (first | refine blk_drewN ?_ _ | refine blk_drew ?_ | refine blk_alloc ?_ _)); refine blk_put (cs := #[.string (⟨#[]⟩ : ByteArray), .int .u64 0, .int .i64 0, .string (⟨#[]⟩ : ByteArray), .string (⟨#[]⟩ : ByteArray)]) ?_ 1 _ rfl; (with_reducible repeat (first | refine blk_drewN ?_ _ | refine blk_drew ?_ | refine blk_alloc ?_ _)); refine blk_put (cs := #[.string (⟨#[]⟩ : ByteArray), .int .u64 0, .int .i64 0, .string (⟨#[]⟩ : ByteArray), .string (⟨#[]⟩ : ByteArray)]) ?_ 0 _ rfl; (with_reducible repeat (first | refine blk_drewN ?_ _ | refine blk_drew ?_ | refine blk_alloc ?_ _)); exact BK274.out) Tryd.underlying28 rfl (by kernel_rfl)) rfl ?_
    exact ⟨by first | rfl | (simp [errW_none, errW_some] <;> rfl) | (simp [*, errW_none, errW_some] <;> rfl), by repeat (first | (with_reducible first | exact HB.out | apply below_alloc | apply pw_below_drewN | apply below_drew1 | refine below_set ?_ GE274.out) | exact HB.out)⟩
   ·replace c8 := Bool.eq_false_iff.mpr c8
    subst c8
    have H1 : (if 1 < (t275.length : Int) then ((fresh_number.f (rdOf ByteArray.empty t275 1)).bind fun bt280 => (if 2 < (t275.length : Int) then ((fresh_number.f (rdOf ByteArray.empty t275 2)).bind fun bt283 => (if 0 < (t275.length : Int) then (if 3 < (t275.length : Int) then (if 4 < (t275.length : Int) then (if bt280.2 = true then (if bt283.2 = true then ((fresh_Right.f kj2 (rdOf ByteArray.empty t275 0) bt280.1 (wrap64 (mn bt283.1 9)) (rdOf ByteArray.empty t275 3) (rdOf ByteArray.empty t275 4)).bind fun t289 => (if t289 = true then (some (rdOf ByteArray.empty t275 0, bt280.1, wrap64 (mn bt283.1 9), rdOf ByteArray.empty t275 3, rdOf ByteArray.empty t275 4, 0)) else (some ((⟨#[]⟩ : ByteArray), 0, 0, (⟨#[]⟩ : ByteArray), (⟨#[]⟩ : ByteArray), 2)))) else (some ((⟨#[]⟩ : ByteArray), 0, 0, (⟨#[]⟩ : ByteArray), (⟨#[]⟩ : ByteArray), 2))) else (some ((⟨#[]⟩ : ByteArray), 0, 0, (⟨#[]⟩ : ByteArray), (⟨#[]⟩ : ByteArray), 2))) else (none)) else (none)) else (none))) else (none))) else (none)) = some (r1, r2, r3, r4, r5, r6) := by rw [if_neg (show ¬ (false = true) by decide)] at H; exact H
    clear H
    have H := H1
    clear H1
    by_cases c10 : 1 < (t275.length : Int)
    ·rw [if_pos c10] at H
     have c10b0 : decide (1 < (t275.length : Int)) = true := decide_eq_true c10
     have c10b1 : decide (1 < t275.length) = true := decide_eq_true (by omega)
     clear c10
     replace H := Option.bind_eq_some_iff.mp H
     obtain ⟨⟨t280, t281⟩, A110, H⟩ := H
     replace H : (if 2 < (t275.length : Int) then ((fresh_number.f (rdOf ByteArray.empty t275 2)).bind fun bt283 => (if 0 < (t275.length : Int) then (if 3 < (t275.length : Int) then (if 4 < (t275.length : Int) then (if t281 = true then (if bt283.2 = true then ((fresh_Right.f kj2 (rdOf ByteArray.empty t275 0) t280 (wrap64 (mn bt283.1 9)) (rdOf ByteArray.empty t275 3) (rdOf ByteArray.empty t275 4)).bind fun t289 => (if t289 = true then (some (rdOf ByteArray.empty t275 0, t280, wrap64 (mn bt283.1 9), rdOf ByteArray.empty t275 3, rdOf ByteArray.empty t275 4, 0)) else (some ((⟨#[]⟩ : ByteArray), 0, 0, (⟨#[]⟩ : ByteArray), (⟨#[]⟩ : ByteArray), 2)))) else (some ((⟨#[]⟩ : ByteArray), 0, 0, (⟨#[]⟩ : ByteArray), (⟨#[]⟩ : ByteArray), 2))) else (some ((⟨#[]⟩ : ByteArray), 0, 0, (⟨#[]⟩ : ByteArray), (⟨#[]⟩ : ByteArray), 2))) else (none)) else (none)) else (none))) else (none)) = some (r1, r2, r3, r4, r5, r6) := H
     have A11 := Aside0.mk A110
     clear A110
     by_cases c12 : 2 < (t275.length : Int)
     ·rw [if_pos c12] at H
      have c12b0 : decide (2 < (t275.length : Int)) = true := decide_eq_true c12
      have c12b1 : decide (2 < t275.length) = true := decide_eq_true (by omega)
      clear c12
      replace H := Option.bind_eq_some_iff.mp H
      obtain ⟨⟨t283, t284⟩, A130, H⟩ := H
      replace H : (if 0 < (t275.length : Int) then (if 3 < (t275.length : Int) then (if 4 < (t275.length : Int) then (if t281 = true then (if t284 = true then ((fresh_Right.f kj2 (rdOf ByteArray.empty t275 0) t280 (wrap64 (mn t283 9)) (rdOf ByteArray.empty t275 3) (rdOf ByteArray.empty t275 4)).bind fun t289 => (if t289 = true then (some (rdOf ByteArray.empty t275 0, t280, wrap64 (mn t283 9), rdOf ByteArray.empty t275 3, rdOf ByteArray.empty t275 4, 0)) else (some ((⟨#[]⟩ : ByteArray), 0, 0, (⟨#[]⟩ : ByteArray), (⟨#[]⟩ : ByteArray), 2)))) else (some ((⟨#[]⟩ : ByteArray), 0, 0, (⟨#[]⟩ : ByteArray), (⟨#[]⟩ : ByteArray), 2))) else (some ((⟨#[]⟩ : ByteArray), 0, 0, (⟨#[]⟩ : ByteArray), (⟨#[]⟩ : ByteArray), 2))) else (none)) else (none)) else (none)) = some (r1, r2, r3, r4, r5, r6) := H
      have A13 := Aside0.mk A130
      clear A130
      by_cases c14 : 0 < (t275.length : Int)
      ·rw [if_pos c14] at H
       have c14b0 : decide (0 < (t275.length : Int)) = true := decide_eq_true c14
       have c14b1 : decide (0 < t275.length) = true := decide_eq_true (by omega)
       clear c14
       obtain ⟨ji15, hji15⟩ : ∃ j_ : Int, (mn t283 9) = j_ := ⟨_, rfl⟩
       replace H : (if 3 < (t275.length : Int) then (if 4 < (t275.length : Int) then (if t281 = true then (if t284 = true then ((fresh_Right.f kj2 (rdOf ByteArray.empty t275 0) t280 (wrap64 (ji15)) (rdOf ByteArray.empty t275 3) (rdOf ByteArray.empty t275 4)).bind fun t289 => (if t289 = true then (some (rdOf ByteArray.empty t275 0, t280, wrap64 (ji15), rdOf ByteArray.empty t275 3, rdOf ByteArray.empty t275 4, 0)) else (some ((⟨#[]⟩ : ByteArray), 0, 0, (⟨#[]⟩ : ByteArray), (⟨#[]⟩ : ByteArray), 2)))) else (some ((⟨#[]⟩ : ByteArray), 0, 0, (⟨#[]⟩ : ByteArray), (⟨#[]⟩ : ByteArray), 2))) else (some ((⟨#[]⟩ : ByteArray), 0, 0, (⟨#[]⟩ : ByteArray), (⟨#[]⟩ : ByteArray), 2))) else (none)) else (none)) = some (r1, r2, r3, r4, r5, r6) := by first | (rw [hji15] at H; exact H) | (simp only [hji15] at H ⊢; exact H)
       (try rw [hji15] at A11)
       (try rw [hji15] at A13)
       (try (have hji15h : ji15 ≤ 9 := by (rw [← hji15]; unfold mn; (repeat' split) <;> omega)))
       (try (have hji15g : ji15 ≤ 64 := by omega))
       have hji15_ : (if 9 < t283 then 9 else t283) = ji15 := hji15
       by_cases c16 : 3 < (t275.length : Int)
       ·rw [if_pos c16] at H
        have c16b0 : decide (3 < (t275.length : Int)) = true := decide_eq_true c16
        have c16b1 : decide (3 < t275.length) = true := decide_eq_true (by omega)
        clear c16
        by_cases c17 : 4 < (t275.length : Int)
        ·rw [if_pos c17] at H
         have c17b0 : decide (4 < (t275.length : Int)) = true := decide_eq_true c17
         have c17b1 : decide (4 < t275.length) = true := decide_eq_true (by omega)
         clear c17
         by_cases c18 : t281 = true
         ·subst c18
          have H1 : (if t284 = true then ((fresh_Right.f kj2 (rdOf ByteArray.empty t275 0) t280 (wrap64 (ji15)) (rdOf ByteArray.empty t275 3) (rdOf ByteArray.empty t275 4)).bind fun t289 => (if t289 = true then (some (rdOf ByteArray.empty t275 0, t280, wrap64 (ji15), rdOf ByteArray.empty t275 3, rdOf ByteArray.empty t275 4, 0)) else (some ((⟨#[]⟩ : ByteArray), 0, 0, (⟨#[]⟩ : ByteArray), (⟨#[]⟩ : ByteArray), 2)))) else (some ((⟨#[]⟩ : ByteArray), 0, 0, (⟨#[]⟩ : ByteArray), (⟨#[]⟩ : ByteArray), 2))) = some (r1, r2, r3, r4, r5, r6) := by rw [if_pos rfl] at H; exact H
          clear H
          have H := H1
          clear H1
          by_cases c19 : t284 = true
          ·subst c19
           have H1 : ((fresh_Right.f kj2 (rdOf ByteArray.empty t275 0) t280 (wrap64 (ji15)) (rdOf ByteArray.empty t275 3) (rdOf ByteArray.empty t275 4)).bind fun t289 => (if t289 = true then (some (rdOf ByteArray.empty t275 0, t280, wrap64 (ji15), rdOf ByteArray.empty t275 3, rdOf ByteArray.empty t275 4, 0)) else (some ((⟨#[]⟩ : ByteArray), 0, 0, (⟨#[]⟩ : ByteArray), (⟨#[]⟩ : ByteArray), 2)))) = some (r1, r2, r3, r4, r5, r6) := by rw [if_pos rfl] at H; exact H
           clear H
           have H := H1
           clear H1
           replace H := Option.bind_eq_some_iff.mp H
           obtain ⟨t289, A200, H⟩ := H
           replace H : (if t289 = true then (some (rdOf ByteArray.empty t275 0, t280, wrap64 (ji15), rdOf ByteArray.empty t275 3, rdOf ByteArray.empty t275 4, 0)) else (some ((⟨#[]⟩ : ByteArray), 0, 0, (⟨#[]⟩ : ByteArray), (⟨#[]⟩ : ByteArray), 2))) = some (r1, r2, r3, r4, r5, r6) := H
           have A20 := Aside0.mk A200
           clear A200
           by_cases c21 : t289 = true
           ·subst c21
            have H1 : (some (rdOf ByteArray.empty t275 0, t280, wrap64 (ji15), rdOf ByteArray.empty t275 3, rdOf ByteArray.empty t275 4, 0)) = some (r1, r2, r3, r4, r5, r6) := by rw [if_pos rfl] at H; exact H
            clear H
            have H := H1
            clear H1
            simp only [Option.some.injEq, Prod.mk.injEq] at H
            obtain ⟨rfl, rfl, rfl, rfl, rfl, rfl⟩ := H
            obtain ⟨Ao22, co22, eo22⟩ := Kd.R_slice HO_4.out
            subst eo22
            have p279 : 0 ≤ (1 : Int) := (by omega)
            have q279 : 1 < (t275.length : Int) := of_decide_eq_true (by first | (with_reducible assumption) | assumption)
            obtain ⟨ad279, e279, hx279_0⟩ := Kd.at_string (Kd.R_reads' HO_4.out).2.2 1 p279 q279
            cases e279
            (try simp only [show (1 : Int).toNat = 1 from rfl, Nat.reduceMul, Nat.reduceEqDiff, Go.Addr.add, ↓reduceIte] at hx279_0)
            have qi279 : (1 < t275.length) = True := eq_true (by omega)
            (try rw [show ((1 : Int)).toNat = 1 from rfl] at hx279_0)
            replace p279 := eq_true p279
            replace q279 := eq_true q279
            try go_wp2_with (first | ((with_reducible refine gate_callee (f := 41) rfl ?_); refine goesL_ (some 28) rfl rfl Tryd.func41 (by kernel_rfl) rfl #[.string (rdOf ByteArray.empty t275 1)] rfl (by (try simp only [List.map_toArray, List.map_cons, List.map_nil]); first | done | rfl | (simp only [List.length_drop, List.length_take]; rfl)) ?_; (with_reducible refine (fresh_number.calls (rdOf ByteArray.empty t275 1) t280 true _ A11.out).mono ?_); rintro e w23 ⟨rfl, hb⟩; refine ⟨_, rfl, ?_⟩; have n0_ := Aside0.mk (Kd.R_below (by (with_reducible repeat (first | apply Kd.R_alloc | apply Kd.R_drewN | apply Kd.R_drew)); exact HO_4.out) hb); have n1_ := Aside0.mk (blk_below (g := gb274) (o := .cells #[.string (⟨#[]⟩ : ByteArray), .int .u64 0, .int .i64 0, .string (⟨#[]⟩ : ByteArray), .string (⟨#[]⟩ : ByteArray)] 28 (0, 0)) (by (with_reducible repeat (first | refine blk_drewN ?_ _ | refine blk_drew ?_ | refine blk_alloc ?_ _)); exact BK274.out) hb); have n2_ := Aside0.mk (below_step (by repeat (first | (with_reducible first | exact HB.out | apply below_alloc | apply pw_below_drewN | apply below_drew1 | refine below_set ?_ GE274.out) | exact HB.out)) hb); clear HO_4; clear BK274; clear HB; have HO_4 := n0_; have BK274 := n1_; have HB := n2_; clear n0_ n1_ n2_; (try clear hb); (try clear hb2); (try clear hk); (try clear hi); have p282 : 0 ≤ (2 : Int) := (by omega); have q282 : 2 < (t275.length : Int) := of_decide_eq_true (by first | (with_reducible assumption) | assumption); obtain ⟨ad282, e282, hx282_0⟩ := Kd.at_string (Kd.R_reads' HO_4.out).2.2 2 p282 q282; obtain rfl : ad279 = ad282 := (by injection e282); (try simp only [show (2 : Int).toNat = 2 from rfl, Nat.reduceMul, Nat.reduceEqDiff, Go.Addr.add, ↓reduceIte] at hx282_0); have qi282 : (2 < t275.length) = True := eq_true (by omega); (try rw [show ((2 : Int)).toNat = 2 from rfl] at hx282_0); replace p282 := eq_true p282; replace q282 := eq_true q282) | ((with_reducible refine gate_callee (f := 41) rfl ?_); refine goesL_ (some 35) rfl rfl Tryd.func41 (by kernel_rfl) rfl #[.string (rdOf ByteArray.empty t275 2)] rfl (by (try simp only [List.map_toArray, List.map_cons, List.map_nil]); first | done | rfl | (simp only [List.length_drop, List.length_take]; rfl)) ?_; (with_reducible refine (fresh_number.calls (rdOf ByteArray.empty t275 2) t283 true _ A13.out).mono ?_); rintro e w24 ⟨rfl, hb⟩; refine ⟨_, rfl, ?_⟩; have n0_ := Aside0.mk (Kd.R_below (by (with_reducible repeat (first | apply Kd.R_alloc | apply Kd.R_drewN | apply Kd.R_drew)); exact HO_4.out) hb); have n1_ := Aside0.mk (blk_below (g := gb274) (o := .cells #[.string (⟨#[]⟩ : ByteArray), .int .u64 0, .int .i64 0, .string (⟨#[]⟩ : ByteArray), .string (⟨#[]⟩ : ByteArray)] 28 (0, 0)) (by (with_reducible repeat (first | refine blk_drewN ?_ _ | refine blk_drew ?_ | refine blk_alloc ?_ _)); exact BK274.out) hb); have n2_ := Aside0.mk (below_step (by repeat (first | (with_reducible first | exact HB.out | apply below_alloc | apply pw_below_drewN | apply below_drew1 | refine below_set ?_ GE274.out) | exact HB.out)) hb); clear HO_4; clear BK274; clear HB; have HO_4 := n0_; have BK274 := n1_; have HB := n2_; clear n0_ n1_ n2_; (try clear hb); (try clear hb2); (try clear hk); (try clear hi)))
            have n0_ := Aside0.mk (Kd.R_drew HO_4.out)
            have n1_ := Aside0.mk (blk_drew BK274.out)
            have n2_ := Aside0.mk (below_drew1 HB.out)
            clear HO_4
            clear BK274
            clear HB
            have HO_4 := n0_
            have BK274 := n1_
            have HB := n2_
            clear n0_ n1_ n2_
            have p285 : 0 ≤ (0 : Int) := (by omega)
            have q285 : 0 < (t275.length : Int) := of_decide_eq_true (by first | (with_reducible assumption) | assumption)
            obtain ⟨ad285, e285, hx285_0⟩ := Kd.at_string (Kd.R_reads' HO_4.out).2.2 0 p285 q285
            obtain rfl : ad279 = ad285 := (by injection e285)
            have qi285 : (0 < t275.length) = True := eq_true (by omega)
            (try rw [show ((0 : Int)).toNat = 0 from rfl] at hx285_0)
            (try rw [Addr.add_zero'] at hx285_0)
            replace p285 := eq_true p285
            replace q285 := eq_true q285
            have p286 : 0 ≤ (3 : Int) := (by omega)
            have q286 : 3 < (t275.length : Int) := of_decide_eq_true (by first | (with_reducible assumption) | assumption)
            obtain ⟨ad286, e286, hx286_0⟩ := Kd.at_string (Kd.R_reads' HO_4.out).2.2 3 p286 q286
            obtain rfl : ad279 = ad286 := (by injection e286)
            (try simp only [show (3 : Int).toNat = 3 from rfl, Nat.reduceMul, Nat.reduceEqDiff, Go.Addr.add, ↓reduceIte] at hx286_0)
            have qi286 : (3 < t275.length) = True := eq_true (by omega)
            (try rw [show ((3 : Int)).toNat = 3 from rfl] at hx286_0)
            replace p286 := eq_true p286
            replace q286 := eq_true q286
            have p287 : 0 ≤ (4 : Int) := (by omega)
            have q287 : 4 < (t275.length : Int) := of_decide_eq_true (by first | (with_reducible assumption) | assumption)
            obtain ⟨ad287, e287, hx287_0⟩ := Kd.at_string (Kd.R_reads' HO_4.out).2.2 4 p287 q287
            obtain rfl : ad279 = ad287 := (by injection e287)
            (try simp only [show (4 : Int).toNat = 4 from rfl, Nat.reduceMul, Nat.reduceEqDiff, Go.Addr.add, ↓reduceIte] at hx287_0)
            have qi287 : (4 < t275.length) = True := eq_true (by omega)
            (try rw [show ((4 : Int)).toNat = 4 from rfl] at hx287_0)
            replace p287 := eq_true p287
            replace q287 := eq_true q287
            refine start_ (n := 16) (S := fun w' => w'.cell? ad279 = some (.string (rdOf ByteArray.empty t275 0)) ∧ w'.cell? ⟨ad279.block, ad279.off + 3, none⟩ = some (.string (rdOf ByteArray.empty t275 3)) ∧ w'.cell? ⟨ad279.block, ad279.off + 4, none⟩ = some (.string (rdOf ByteArray.empty t275 4))) (ds := []) #[false, false, false, false, false, false, false, false, false, false, false, false, false, false, false, false] (by kernel_rfl) rfl rfl ⟨hx285_0, hx286_0, hx287_0⟩ (fun hHeld => ?_); refine with_tabW fresh_Take.tab6 fresh_Take.bits6 (fun HT_ HW_ => ?_)
            generalize w24.drew = w25 at HO_4 BK274 HB hx285_0 hx286_0 hx287_0 hHeld ⊢
            refine pure_ (i := 0) (N := some 38) (v := ?_) (a' := ?_) #[true, false, false, false, false, false, false, false, false, false, false, false, false, false, false, false] rfl rfl (any_of HT_.out (by kernel_rfl)) (fun _ _ _ h => h) (Or.inl ⟨by rfl, ?_⟩) ?_ ?_
            rotate_left
            ·intro w'
             go_simp
             with_reducible rfl
            rotate_left
            ·simp only [Act.put, List.setIfInBounds_toArray, List.set_cons_zero, List.set_cons_succ, i64_w, i32_w]
             rfl
            refine pure_ (i := 1) (N := some 39) (v := ?_) (a' := ?_) #[true, true, false, false, false, false, false, false, false, false, false, false, false, false, false, false] rfl rfl (any_of HT_.out (by kernel_rfl)) (fun _ _ _ h => h) (Or.inl ⟨by rfl, ?_⟩) ?_ ?_
            rotate_left
            ·intro w'
             go_simp
             with_reducible rfl
            rotate_left
            ·simp only [Act.put, List.setIfInBounds_toArray, List.set_cons_zero, List.set_cons_succ, i64_w, i32_w]
             rfl
            refine pure_ (i := 3) (N := some 41) (v := ?_) (a' := ?_) #[true, true, false, true, false, false, false, false, false, false, false, false, false, false, false, false] rfl rfl (any_of HT_.out (by kernel_rfl)) (fun _ _ _ h => h) (Or.inl ⟨by rfl, ?_⟩) ?_ ?_
            rotate_left
            ·intro w'
             go_simp
             with_reducible rfl
            rotate_left
            ·simp only [Act.put, List.setIfInBounds_toArray, List.set_cons_zero, List.set_cons_succ, i64_w, i32_w]
             rfl
            refine pure_ (i := 4) (N := some 42) (v := ?_) (a' := ?_) #[true, true, false, true, true, false, false, false, false, false, false, false, false, false, false, false] rfl rfl (any_of HT_.out (by kernel_rfl)) (fun _ _ _ h => h) (Or.inl ⟨by rfl, ?_⟩) ?_ ?_
            rotate_left
            ·intro w'
             go_simp
             with_reducible rfl
            rotate_left
            ·simp only [Act.put, List.setIfInBounds_toArray, List.set_cons_zero, List.set_cons_succ, i64_w, i32_w]
             rfl
            refine pure_ (i := 5) (N := some 43) (v := ?_) (a' := ?_) #[true, true, false, true, true, true, false, false, false, false, false, false, false, false, false, false] rfl rfl (any_of HT_.out (by kernel_rfl)) (fun _ _ _ h => h) (Or.inl ⟨by rfl, ?_⟩) ?_ ?_
            rotate_left
            ·intro w'
             go_simp
             with_reducible rfl
            rotate_left
            ·simp only [Act.put, List.setIfInBounds_toArray, List.set_cons_zero, List.set_cons_succ, i64_w, i32_w]
             rfl
            refine pure_ (i := 6) (N := some 44) (v := ?_) (a' := ?_) #[true, true, false, true, true, true, true, false, false, false, false, false, false, false, false, false] rfl rfl (any_of HT_.out (by kernel_rfl)) (fun _ _ _ h => h) (Or.inl ⟨by rfl, ?_⟩) ?_ ?_
            rotate_left
            ·intro w'
             go_simp
             with_reducible rfl
            rotate_left
            ·simp only [Act.put, List.setIfInBounds_toArray, List.set_cons_zero, List.set_cons_succ, i64_w, i32_w]
             rfl
            refine pure_ (i := 7) (N := some 45) (v := ?_) (a' := ?_) #[true, true, false, true, true, true, true, true, false, false, false, false, false, false, false, false] rfl rfl (any_of HT_.out (by kernel_rfl)) (fun _ _ _ h => h) (Or.inl ⟨by rfl, ?_⟩) ?_ ?_
            rotate_left
            ·intro w'
             go_simp
             with_reducible rfl
            rotate_left
            ·simp only [Act.put, List.setIfInBounds_toArray, List.set_cons_zero, List.set_cons_succ, i64_w, i32_w]
             rfl
            refine pure_ (i := 8) (N := some 46) (v := ?_) (a' := ?_) #[true, true, false, true, true, true, true, true, true, false, false, false, false, false, false, false] rfl rfl (any_of HT_.out (by kernel_rfl)) (fun _ _ _ h => h) (Or.inl ⟨by rfl, ?_⟩) ?_ ?_
            rotate_left
            ·intro w'
             go_simp
             with_reducible rfl
            rotate_left
            ·simp only [Act.put, List.setIfInBounds_toArray, List.set_cons_zero, List.set_cons_succ, i64_w, i32_w]
             rfl
            refine pure_ (i := 10) (N := some 48) (v := ?_) (a' := ?_) #[true, true, false, true, true, true, true, true, true, false, true, false, false, false, false, false] rfl rfl (any_of HT_.out (by kernel_rfl)) (fun _ _ _ h => h) (Or.inl ⟨by rfl, ?_⟩) ?_ ?_
            rotate_left
            ·intro w'
             go_simp
             with_reducible rfl
            rotate_left
            ·simp only [Act.put, List.setIfInBounds_toArray, List.set_cons_zero, List.set_cons_succ, i64_w, i32_w]
             rfl
            refine pure_ (i := 11) (N := some 49) (v := ?_) (a' := ?_) #[true, true, false, true, true, true, true, true, true, false, true, true, false, false, false, false] rfl rfl (any_of HT_.out (by kernel_rfl)) (fun _ _ _ h => h) (Or.inl ⟨by rfl, ?_⟩) ?_ ?_
            rotate_left
            ·intro w'
             go_simp
             with_reducible rfl
            rotate_left
            ·simp only [Act.put, List.setIfInBounds_toArray, List.set_cons_zero, List.set_cons_succ, i64_w, i32_w]
             rfl
            refine take_ (i := 2) (N := some 40) (v := ?_) (a' := ?_) #[true, true, true, true, true, true, true, true, true, false, true, true, false, false, false, false] rfl rfl (take_ofW HT_.out HW_.out (by kernel_rfl)) (fun _ _ _ h => h) (Or.inl ⟨by rfl, ?_⟩) hHeld ?_ ?_
            rotate_left
            ·rintro w' ⟨s0, s1, s2⟩
             go_simp
             with_reducible rfl
            rotate_left
            ·simp only [Act.put, List.setIfInBounds_toArray, List.set_cons_zero, List.set_cons_succ, i64_w, i32_w]
             rfl
            refine take_ (i := 9) (N := some 47) (v := ?_) (a' := ?_) #[true, true, true, true, true, true, true, true, true, true, true, true, false, false, false, false] rfl rfl (take_ofW HT_.out HW_.out (by kernel_rfl)) (fun _ _ _ h => h) (Or.inl ⟨by rfl, ?_⟩) hHeld ?_ ?_
            rotate_left
            ·rintro w' ⟨s0, s1, s2⟩
             go_simp
             with_reducible rfl
            rotate_left
            ·simp only [Act.put, List.setIfInBounds_toArray, List.set_cons_zero, List.set_cons_succ, i64_w, i32_w]
             rfl
            refine take_ (i := 12) (N := some 50) (v := ?_) (a' := ?_) #[true, true, true, true, true, true, true, true, true, true, true, true, true, false, false, false] rfl rfl (take_ofW HT_.out HW_.out (by kernel_rfl)) (fun _ _ _ h => h) (Or.inl ⟨by rfl, ?_⟩) hHeld ?_ ?_
            rotate_left
            ·rintro w' ⟨s0, s1, s2⟩
             go_simp
             with_reducible rfl
            rotate_left
            ·simp only [Act.put, List.setIfInBounds_toArray, List.set_cons_zero, List.set_cons_succ, i64_w, i32_w]
             rfl
            refine pure_ (i := 13) (N := some 51) (v := ?_) (a' := ?_) #[true, true, true, true, true, true, true, true, true, true, true, true, true, true, false, false] rfl rfl (any_of HT_.out (by kernel_rfl)) (fun _ _ _ h => h) (Or.inl ⟨by rfl, ?_⟩) ?_ ?_
            rotate_left
            ·intro w'
             go_simp
             with_reducible rfl
            rotate_left
            ·simp only [Act.put, List.setIfInBounds_toArray, List.set_cons_zero, List.set_cons_succ, i64_w, i32_w]
             rfl
            refine one_ (i := 14) (N := some 10) #[true, true, true, true, true, true, true, true, true, true, true, true, true, true, true, false] rfl rfl (one_of HT_.out (by kernel_rfl)) (by decide) (fun K hK => ?_)
            refine box_step ?hg (N := 10) ?hd (cs := #[.string (⟨#[]⟩ : ByteArray), .int .u64 0, .int .i64 0, .string (⟨#[]⟩ : ByteArray), .string (⟨#[]⟩ : ByteArray)]) (t := 28) ?hr ?_; (case hd => rfl); (case hg => rfl); (case hr => first | (go_simp; done) | (go_simp; rfl))
            intro gb288 hg w26 hbox hb
            have HS0_ := (hb.cell (World.block_lt_of_cell? _ _ (hHeld.1))).trans (hHeld.1)
            have HS1_ := (hb.cell (World.block_lt_of_cell? _ _ (hHeld.2.1))).trans (hHeld.2.1)
            have HS2_ := (hb.cell (World.block_lt_of_cell? _ _ (hHeld.2.2))).trans (hHeld.2.2)
            have n0_ := Aside0.mk (Kd.R_below (by (with_reducible repeat (first | apply Kd.R_alloc | apply Kd.R_drewN | apply Kd.R_drew)); exact HO_4.out) hb)
            have n1_ := Aside0.mk (blk_below (g := gb274) (o := .cells #[.string (⟨#[]⟩ : ByteArray), .int .u64 0, .int .i64 0, .string (⟨#[]⟩ : ByteArray), .string (⟨#[]⟩ : ByteArray)] 28 (0, 0)) (by (with_reducible repeat (first | refine blk_drewN ?_ _ | refine blk_drew ?_ | refine blk_alloc ?_ _)); exact BK274.out) hb)
            have n2_ := Aside0.mk (below_step (by repeat (first | (with_reducible first | exact HB.out | apply below_alloc | apply pw_below_drewN | apply below_drew1 | refine below_set ?_ GE274.out) | exact HB.out)) hb)
            have n3_ := Aside0.mk (hbox)
            have n4_ := Aside0.mk ((by rw [hg]; exact (below_size (by repeat (first | (with_reducible first | exact HB.out | apply below_alloc | apply pw_below_drewN | apply below_drew1 | refine below_set ?_ GE274.out) | exact HB.out))) : w.heap.size ≤ gb288))
            have n5_ := Aside0.mk ((by rw [hg]; exact (below_size (by repeat (first | (with_reducible first | exact HB.out | apply below_alloc | apply pw_below_drewN | apply below_drew1 | refine below_set ?_ GE274.out) | exact HB.out))) : w.heap.size ≤ gb288))
            have n6_ := Aside0.mk ((by rw [hg]; exact Nat.ne_of_lt (blk_lt (g := gb274) (o := .cells #[.string (⟨#[]⟩ : ByteArray), .int .u64 0, .int .i64 0, .string (⟨#[]⟩ : ByteArray), .string (⟨#[]⟩ : ByteArray)] 28 (0, 0)) (by (with_reducible repeat (first | refine blk_drewN ?_ _ | refine blk_drew ?_ | refine blk_alloc ?_ _)); exact BK274.out)) : gb274 ≠ gb288))
            have n7_ := Aside0.mk ((by rw [hg]; exact Nat.ne_of_gt (blk_lt (g := gb274) (o := .cells #[.string (⟨#[]⟩ : ByteArray), .int .u64 0, .int .i64 0, .string (⟨#[]⟩ : ByteArray), .string (⟨#[]⟩ : ByteArray)] 28 (0, 0)) (by (with_reducible repeat (first | refine blk_drewN ?_ _ | refine blk_drew ?_ | refine blk_alloc ?_ _)); exact BK274.out)) : gb288 ≠ gb274))
            clear HO_4
            clear BK274
            clear HB
            have HO_4 := n0_
            have BK274 := n1_
            have HB := n2_
            have BK288 := n3_
            have GW288 := n4_
            have GE288 := n5_
            have NB274_288 := n6_
            have NB288_274 := n7_
            clear n0_ n1_ n2_ n3_ n4_ n5_ n6_ n7_
            clear hb hbox hg
            refine hK.out _ _ ⟨HS0_, HS1_, HS2_⟩ (fun hHeld => ?_)
            clear hK K
            refine norm_ (a' := ?_) ?_ ?_
            rotate_left
            ·show Act.put _ (some 10) _ = _
             simp only [Act.put, List.setIfInBounds_toArray, List.set_cons_zero, List.set_cons_succ, i64_w, i32_w]
             rfl
            refine one_ (i := 15) (N := none) #[true, true, true, true, true, true, true, true, true, true, true, true, true, true, true, true] rfl rfl (one_of HT_.out (by kernel_rfl)) (by decide) (fun K hK => ?_)
            have hs27 : w26.cell? ⟨gb288, 0, none⟩ = some (.string (⟨#[]⟩ : ByteArray)) := (blk_cell BK288.out 0).trans rfl
            have hfs27 := blk_frozen BK288.out 0
            have hns27_0 := NB274_288.out
            have hms27_0 := NB288_274.out
            have hs28 : w26.cell? ⟨gb288, 1, none⟩ = some (.int .u64 0) := (blk_cell BK288.out 1).trans rfl
            have hfs28 := blk_frozen BK288.out 1
            have hns28_0 := NB274_288.out
            have hms28_0 := NB288_274.out
            have hs29 : w26.cell? ⟨gb288, 2, none⟩ = some (.int .i64 0) := (blk_cell BK288.out 2).trans rfl
            have hfs29 := blk_frozen BK288.out 2
            have hns29_0 := NB274_288.out
            have hms29_0 := NB288_274.out
            have hs30 : w26.cell? ⟨gb288, 3, none⟩ = some (.string (⟨#[]⟩ : ByteArray)) := (blk_cell BK288.out 3).trans rfl
            have hfs30 := blk_frozen BK288.out 3
            have hns30_0 := NB274_288.out
            have hms30_0 := NB288_274.out
            have hs31 : w26.cell? ⟨gb288, 4, none⟩ = some (.string (⟨#[]⟩ : ByteArray)) := (blk_cell BK288.out 4).trans rfl
            have hfs31 := blk_frozen BK288.out 4
            have hns31_0 := NB274_288.out
            have hms31_0 := NB288_274.out
            refine skip_ (w1 := ?_) (by rfl) rfl ?_ ?_
            rotate_left
            ·refine' fresh_Take.store5 _ _ _ _ ?ho_ _ gb288 _ _ _ _ _ ?hp_ ?hv_ BK288.out
             case ho_ => rfl
             case hp_ => rfl
             case hv_ => rfl
            have hne_ : ad279.block ≠ gb288 := Kd.own_blk (Kd.R_ne HO_4.out BK288.out (by decide))
            refine hK.out _ _ ⟨(fresh_Take.far5 hne_ _ _ _ _ _).trans hHeld.1, (fresh_Take.far5 (a := ⟨ad279.block, _, none⟩) hne_ _ _ _ _ _).trans hHeld.2.1, (fresh_Take.far5 (a := ⟨ad279.block, _, none⟩) hne_ _ _ _ _ _).trans hHeld.2.2⟩ (fun hHeld => ?_)
            clear hne_
            clear hK K
            refine done_ (done_of HT_.out (by kernel_rfl)) ?_
            have q0_ : (((((w26.setCell ⟨gb288, 0, none⟩ (.string (rdOf ByteArray.empty t275 0))).setCell ⟨gb288, 1, none⟩ (.int .u64 t280)).setCell ⟨gb288, 2, none⟩ (.int .i64 (wrap64 (ji15)))).setCell ⟨gb288, 3, none⟩ (.string (rdOf ByteArray.empty t275 3))).setCell ⟨gb288, 4, none⟩ (.string (rdOf ByteArray.empty t275 4))).heap[gb288]? = some (.cells #[.string (rdOf ByteArray.empty t275 0), .int .u64 t280, .int .i64 (wrap64 (ji15)), .string (rdOf ByteArray.empty t275 3), .string (rdOf ByteArray.empty t275 4)] 28 (0, 0)) := (blk_put (blk_put (blk_put (blk_put (blk_put BK288.out 0 (.string (rdOf ByteArray.empty t275 0)) rfl) 1 (.int .u64 t280) rfl) 2 (.int .i64 (wrap64 (ji15))) rfl) 3 (.string (rdOf ByteArray.empty t275 3)) rfl) 4 (.string (rdOf ByteArray.empty t275 4)) rfl)
            have q1_ : (((((w26.setCell ⟨gb288, 0, none⟩ (.string (rdOf ByteArray.empty t275 0))).setCell ⟨gb288, 1, none⟩ (.int .u64 t280)).setCell ⟨gb288, 2, none⟩ (.int .i64 (wrap64 (ji15)))).setCell ⟨gb288, 3, none⟩ (.string (rdOf ByteArray.empty t275 3))).setCell ⟨gb288, 4, none⟩ (.string (rdOf ByteArray.empty t275 4))).heap[gb274]? = some (.cells #[.string (⟨#[]⟩ : ByteArray), .int .u64 0, .int .i64 0, .string (⟨#[]⟩ : ByteArray), .string (⟨#[]⟩ : ByteArray)] 28 (0, 0)) := (blk_far (blk_far (blk_far (blk_far (blk_far BK274.out NB274_288.out (.string (rdOf ByteArray.empty t275 0))) NB274_288.out (.int .u64 t280)) NB274_288.out (.int .i64 (wrap64 (ji15)))) NB274_288.out (.string (rdOf ByteArray.empty t275 3))) NB274_288.out (.string (rdOf ByteArray.empty t275 4)))
            have q2_ : Below w.heap.size w (((((w26.setCell ⟨gb288, 0, none⟩ (.string (rdOf ByteArray.empty t275 0))).setCell ⟨gb288, 1, none⟩ (.int .u64 t280)).setCell ⟨gb288, 2, none⟩ (.int .i64 (wrap64 (ji15)))).setCell ⟨gb288, 3, none⟩ (.string (rdOf ByteArray.empty t275 3))).setCell ⟨gb288, 4, none⟩ (.string (rdOf ByteArray.empty t275 4))) := (below_set (below_set (below_set (below_set (below_set HB.out GE288.out) GE288.out) GE288.out) GE288.out) GE288.out)
            have q3_ := Kd.R_mono (Kd.R_far (p := ⟨gb288, 4, none⟩) (Kd.R_far (p := ⟨gb288, 3, none⟩) (Kd.R_far (p := ⟨gb288, 2, none⟩) (Kd.R_far (p := ⟨gb288, 1, none⟩) (Kd.R_far (p := ⟨gb288, 0, none⟩) (Kd.R_types HO_4.out BK288.out (by decide)) (fun _ hk => hk.2) (.string (rdOf ByteArray.empty t275 0))) (fun _ hk => hk.2) (.int .u64 t280)) (fun _ hk => hk.2) (.int .i64 (wrap64 (ji15)))) (fun _ hk => hk.2) (.string (rdOf ByteArray.empty t275 3))) (fun _ hk => hk.2) (.string (rdOf ByteArray.empty t275 4))) (fun _ h_ => h_.1)
            clear HO_4 BK288 BK274 HB hHeld
            have HO_4 := Aside0.mk q3_
            have BK274 := Aside0.mk q1_
            have BK288 := Aside0.mk q0_
            have HB := Aside0.mk q2_
            clear q0_ q1_ q2_ q3_
            (try clear HS0_)
            (try clear HS1_)
            (try clear HS2_)
            generalize (((((w26.setCell ⟨gb288, 0, none⟩ (.string (rdOf ByteArray.empty t275 0))).setCell ⟨gb288, 1, none⟩ (.int .u64 t280)).setCell ⟨gb288, 2, none⟩ (.int .i64 (wrap64 (ji15)))).setCell ⟨gb288, 3, none⟩ (.string (rdOf ByteArray.empty t275 3))).setCell ⟨gb288, 4, none⟩ (.string (rdOf ByteArray.empty t275 4))) = w26 at HO_4 BK274 BK288 HB ⊢
            have hnb32 := NB288_274.out
            have hnc32 := NB274_288.out
            have hcz33_0 : w26.cell? ⟨gb288, 0, none⟩ = some (.string (rdOf ByteArray.empty t275 0)) := (blk_cell BK288.out 0).trans rfl
            have hcz33_1 : w26.cell? ⟨gb288, 1, none⟩ = some (.int .u64 t280) := (blk_cell BK288.out 1).trans rfl
            have hcz33_2 : w26.cell? ⟨gb288, 2, none⟩ = some (.int .i64 (wrap64 (ji15))) := (blk_cell BK288.out 2).trans rfl
            have hcz33_3 : w26.cell? ⟨gb288, 3, none⟩ = some (.string (rdOf ByteArray.empty t275 3)) := (blk_cell BK288.out 3).trans rfl
            have hcz33_4 : w26.cell? ⟨gb288, 4, none⟩ = some (.string (rdOf ByteArray.empty t275 4)) := (blk_cell BK288.out 4).trans rfl
            have hfz33_0 := blk_frozen BK288.out 0
            have hfz33_1 := blk_frozen BK288.out 1
            have hfz33_2 := blk_frozen BK288.out 2
            have hfz33_3 := blk_frozen BK288.out 3
            have hfz33_4 := blk_frozen BK288.out 4
            try go_wp2_with (first | (go_at_call 31; (with_reducible refine (fresh_Right.calls kj2 (rdOf ByteArray.empty t275 0) t280 (wrap64 (ji15)) (rdOf ByteArray.empty t275 3) (rdOf ByteArray.empty t275 4) true _ A20.out ?sidev).mono ?_); (case sidev => exact Laid8.below HV.out (by repeat (first | (with_reducible first | exact HB.out | apply below_alloc | apply pw_below_drewN | apply below_drew1 | refine below_set ?_ GE274.out | refine below_set ?_ GE288.out) | exact HB.out))); rintro e w34 ⟨rfl, hb⟩; have n0_ := Aside0.mk (Kd.R_below (by (with_reducible repeat (first | apply Kd.R_alloc | apply Kd.R_drewN | apply Kd.R_drew)); exact HO_4.out) hb); have n1_ := Aside0.mk (blk_below (g := gb274) (o := .cells #[.string (⟨#[]⟩ : ByteArray), .int .u64 0, .int .i64 0, .string (⟨#[]⟩ : ByteArray), .string (⟨#[]⟩ : ByteArray)] 28 (0, 0)) (by (with_reducible repeat (first | refine blk_drewN ?_ _ | refine blk_drew ?_ | refine blk_alloc ?_ _)); exact BK274.out) hb); have n2_ := Aside0.mk (blk_below (g := gb288) (o := .cells #[.string (rdOf ByteArray.empty t275 0), .int .u64 t280, .int .i64 (wrap64 (ji15)), .string (rdOf ByteArray.empty t275 3), .string (rdOf ByteArray.empty t275 4)] 28 (0, 0)) (by (with_reducible repeat (first | refine blk_drewN ?_ _ | refine blk_drew ?_ | refine blk_alloc ?_ _)); exact BK288.out) hb); have n3_ := Aside0.mk (below_step (by repeat (first | (with_reducible first | exact HB.out | apply below_alloc | apply pw_below_drewN | apply below_drew1 | refine below_set ?_ GE274.out | refine below_set ?_ GE288.out) | exact HB.out)) hb); clear HO_4; clear BK274; clear BK288; clear HB; have HO_4 := n0_; have BK274 := n1_; have BK288 := n2_; have HB := n3_; clear n0_ n1_ n2_ n3_; (try clear hb); (try clear hb2); (try clear hk); (try clear hi); have hcz35_0 : w34.cell? ⟨gb288, 0, none⟩ = some (.string (rdOf ByteArray.empty t275 0)) := (blk_cell BK288.out 0).trans rfl; have hcz35_1 : w34.cell? ⟨gb288, 1, none⟩ = some (.int .u64 t280) := (blk_cell BK288.out 1).trans rfl; have hcz35_2 : w34.cell? ⟨gb288, 2, none⟩ = some (.int .i64 (wrap64 (ji15))) := (blk_cell BK288.out 2).trans rfl; have hcz35_3 : w34.cell? ⟨gb288, 3, none⟩ = some (.string (rdOf ByteArray.empty t275 3)) := (blk_cell BK288.out 3).trans rfl; have hcz35_4 : w34.cell? ⟨gb288, 4, none⟩ = some (.string (rdOf ByteArray.empty t275 4)) := (blk_cell BK288.out 4).trans rfl; have hfz35_0 := blk_frozen BK288.out 0; have hfz35_1 := blk_frozen BK288.out 1; have hfz35_2 := blk_frozen BK288.out 2; have hfz35_3 := blk_frozen BK288.out 3; have hfz35_4 := blk_frozen BK288.out 4; have hcz36_0 : w34.cell? ⟨gb274, 0, none⟩ = some (.string (⟨#[]⟩ : ByteArray)) := (blk_cell BK274.out 0).trans rfl; have hcz36_1 : w34.cell? ⟨gb274, 1, none⟩ = some (.int .u64 0) := (blk_cell BK274.out 1).trans rfl; have hcz36_2 : w34.cell? ⟨gb274, 2, none⟩ = some (.int .i64 0) := (blk_cell BK274.out 2).trans rfl; have hcz36_3 : w34.cell? ⟨gb274, 3, none⟩ = some (.string (⟨#[]⟩ : ByteArray)) := (blk_cell BK274.out 3).trans rfl; have hcz36_4 : w34.cell? ⟨gb274, 4, none⟩ = some (.string (⟨#[]⟩ : ByteArray)) := (blk_cell BK274.out 4).trans rfl; have hfz36_0 := blk_frozen BK274.out 0; have hfz36_1 := blk_frozen BK274.out 1; have hfz36_2 := blk_frozen BK274.out 2; have hfz36_3 := blk_frozen BK274.out 3; have hfz36_4 := blk_frozen BK274.out 4))
            refine bodyPost_ret (results_ct rfl _ _ gb274 28 #[.string (rdOf ByteArray.empty t275 0), .int .u64 t280, .int .i64 (wrap64 (ji15)), .string (rdOf ByteArray.empty t275 3), .string (rdOf ByteArray.empty t275 4)] (0, 0) _ rfl (by (with_reducible repeat (first | refine blk_drewN ?_ _ | refine blk_drew ?_ | refine blk_alloc ?_ _)); refine blk_put (cs := #[.string (rdOf ByteArray.empty t275 0), .int .u64 t280, .int .i64 (wrap64 (ji15)), .string (rdOf ByteArray.empty t275 3), .string (⟨#[]⟩ : ByteArray)]) ?_ 4 _ rfl; (with_reducible repeat (first | refine blk_drewN ?_ _ | refine blk_drew ?_ | refine blk_alloc ?_ _)); refine blk_put (cs := #[.string (rdOf ByteArray.empty t275 0), .int .u64 t280, .int .i64 (wrap64 (ji15)), .string (⟨#[]⟩ : ByteArray), .string (⟨#[]⟩ : ByteArray)]) ?_ 3 _ rfl; (with_reducible repeat (first | refine blk_drewN ?_ _ | refine blk_drew ?_ | refine blk_alloc ?_ _)); refine blk_put (cs := #[.string (rdOf ByteArray.empty t275 0), .int .u64 t280, .int .i64 0, .string (⟨#[]⟩ : ByteArray), .string (⟨#[]⟩ : ByteArray)]) ?_ 2 _ rfl; (with_reducible repeat (first | refine blk_drewN ?_ _ | refine blk_drew ?_ | refine blk_alloc ?_ _)); refine blk_put (cs := #[.string (rdOf ByteArray.empty t275 0), .int .u64 0, .int .i64 0, .string (⟨#[]⟩ : ByteArray), .string (⟨#[]⟩ : ByteArray)]) ?_ 1 _ rfl; (with_reducible repeat (first | refine blk_drewN ?_ _ | refine blk_drew ?_ | refine blk_alloc ?_ _)); refine blk_put (cs := #[.string (⟨#[]⟩ : ByteArray), .int .u64 0, .int .i64 0, .string (⟨#[]⟩ : ByteArray), .string (⟨#[]⟩ : ByteArray)]) ?_ 0 _ rfl; (with_reducible repeat (first | refine blk_drewN ?_ _ | refine blk_drew ?_ | refine blk_alloc ?_ _)); exact BK274.out) Tryd.underlying28 rfl (by kernel_rfl)) rfl ?_
            exact ⟨by first | rfl | (simp [errW_none, errW_some] <;> rfl) | (simp only [← hji15]; first | rfl | (simp [errW_none, errW_some] <;> rfl)) | (simp [*, errW_none, errW_some] <;> rfl), by repeat (first | (with_reducible first | exact HB.out | apply below_alloc | apply pw_below_drewN | apply below_drew1 | refine below_set ?_ GE274.out | refine below_set ?_ GE288.out) | exact HB.out)⟩
           ·replace c21 := Bool.eq_false_iff.mpr c21
            subst c21
            have H1 : (some ((⟨#[]⟩ : ByteArray), 0, 0, (⟨#[]⟩ : ByteArray), (⟨#[]⟩ : ByteArray), 2)) = some (r1, r2, r3, r4, r5, r6) := by rw [if_neg (show ¬ (false = true) by decide)] at H; exact H
            clear H
            have H := H1
            clear H1
            simp only [Option.some.injEq, Prod.mk.injEq] at H
            obtain ⟨rfl, rfl, rfl, rfl, rfl, rfl⟩ := H
            obtain ⟨Ao37, co37, eo37⟩ := Kd.R_slice HO_4.out
            subst eo37
            have p279 : 0 ≤ (1 : Int) := (by omega)
            have q279 : 1 < (t275.length : Int) := of_decide_eq_true (by first | (with_reducible assumption) | assumption)
            obtain ⟨ad279, e279, hx279_0⟩ := Kd.at_string (Kd.R_reads' HO_4.out).2.2 1 p279 q279
            cases e279
            (try simp only [show (1 : Int).toNat = 1 from rfl, Nat.reduceMul, Nat.reduceEqDiff, Go.Addr.add, ↓reduceIte] at hx279_0)
            have qi279 : (1 < t275.length) = True := eq_true (by omega)
            (try rw [show ((1 : Int)).toNat = 1 from rfl] at hx279_0)
            replace p279 := eq_true p279
            replace q279 := eq_true q279
            try go_wp2_with (first | ((with_reducible refine gate_callee (f := 41) rfl ?_); refine goesL_ (some 28) rfl rfl Tryd.func41 (by kernel_rfl) rfl #[.string (rdOf ByteArray.empty t275 1)] rfl (by (try simp only [List.map_toArray, List.map_cons, List.map_nil]); first | done | rfl | (simp only [List.length_drop, List.length_take]; rfl)) ?_; (with_reducible refine (fresh_number.calls (rdOf ByteArray.empty t275 1) t280 true _ A11.out).mono ?_); rintro e w38 ⟨rfl, hb⟩; refine ⟨_, rfl, ?_⟩; have n0_ := Aside0.mk (Kd.R_below (by (with_reducible repeat (first | apply Kd.R_alloc | apply Kd.R_drewN | apply Kd.R_drew)); exact HO_4.out) hb); have n1_ := Aside0.mk (blk_below (g := gb274) (o := .cells #[.string (⟨#[]⟩ : ByteArray), .int .u64 0, .int .i64 0, .string (⟨#[]⟩ : ByteArray), .string (⟨#[]⟩ : ByteArray)] 28 (0, 0)) (by (with_reducible repeat (first | refine blk_drewN ?_ _ | refine blk_drew ?_ | refine blk_alloc ?_ _)); exact BK274.out) hb); have n2_ := Aside0.mk (below_step (by repeat (first | (with_reducible first | exact HB.out | apply below_alloc | apply pw_below_drewN | apply below_drew1 | refine below_set ?_ GE274.out) | exact HB.out)) hb); clear HO_4; clear BK274; clear HB; have HO_4 := n0_; have BK274 := n1_; have HB := n2_; clear n0_ n1_ n2_; (try clear hb); (try clear hb2); (try clear hk); (try clear hi); have p282 : 0 ≤ (2 : Int) := (by omega); have q282 : 2 < (t275.length : Int) := of_decide_eq_true (by first | (with_reducible assumption) | assumption); obtain ⟨ad282, e282, hx282_0⟩ := Kd.at_string (Kd.R_reads' HO_4.out).2.2 2 p282 q282; obtain rfl : ad279 = ad282 := (by injection e282); (try simp only [show (2 : Int).toNat = 2 from rfl, Nat.reduceMul, Nat.reduceEqDiff, Go.Addr.add, ↓reduceIte] at hx282_0); have qi282 : (2 < t275.length) = True := eq_true (by omega); (try rw [show ((2 : Int)).toNat = 2 from rfl] at hx282_0); replace p282 := eq_true p282; replace q282 := eq_true q282) | ((with_reducible refine gate_callee (f := 41) rfl ?_); refine goesL_ (some 35) rfl rfl Tryd.func41 (by kernel_rfl) rfl #[.string (rdOf ByteArray.empty t275 2)] rfl (by (try simp only [List.map_toArray, List.map_cons, List.map_nil]); first | done | rfl | (simp only [List.length_drop, List.length_take]; rfl)) ?_; (with_reducible refine (fresh_number.calls (rdOf ByteArray.empty t275 2) t283 true _ A13.out).mono ?_); rintro e w39 ⟨rfl, hb⟩; refine ⟨_, rfl, ?_⟩; have n0_ := Aside0.mk (Kd.R_below (by (with_reducible repeat (first | apply Kd.R_alloc | apply Kd.R_drewN | apply Kd.R_drew)); exact HO_4.out) hb); have n1_ := Aside0.mk (blk_below (g := gb274) (o := .cells #[.string (⟨#[]⟩ : ByteArray), .int .u64 0, .int .i64 0, .string (⟨#[]⟩ : ByteArray), .string (⟨#[]⟩ : ByteArray)] 28 (0, 0)) (by (with_reducible repeat (first | refine blk_drewN ?_ _ | refine blk_drew ?_ | refine blk_alloc ?_ _)); exact BK274.out) hb); have n2_ := Aside0.mk (below_step (by repeat (first | (with_reducible first | exact HB.out | apply below_alloc | apply pw_below_drewN | apply below_drew1 | refine below_set ?_ GE274.out) | exact HB.out)) hb); clear HO_4; clear BK274; clear HB; have HO_4 := n0_; have BK274 := n1_; have HB := n2_; clear n0_ n1_ n2_; (try clear hb); (try clear hb2); (try clear hk); (try clear hi)))
            have n0_ := Aside0.mk (Kd.R_drew HO_4.out)
            have n1_ := Aside0.mk (blk_drew BK274.out)
            have n2_ := Aside0.mk (below_drew1 HB.out)
            clear HO_4
            clear BK274
            clear HB
            have HO_4 := n0_
            have BK274 := n1_
            have HB := n2_
            clear n0_ n1_ n2_
            have p285 : 0 ≤ (0 : Int) := (by omega)
            have q285 : 0 < (t275.length : Int) := of_decide_eq_true (by first | (with_reducible assumption) | assumption)
            obtain ⟨ad285, e285, hx285_0⟩ := Kd.at_string (Kd.R_reads' HO_4.out).2.2 0 p285 q285
            obtain rfl : ad279 = ad285 := (by injection e285)
            have qi285 : (0 < t275.length) = True := eq_true (by omega)
            (try rw [show ((0 : Int)).toNat = 0 from rfl] at hx285_0)
            (try rw [Addr.add_zero'] at hx285_0)
            replace p285 := eq_true p285
            replace q285 := eq_true q285
            have p286 : 0 ≤ (3 : Int) := (by omega)
            have q286 : 3 < (t275.length : Int) := of_decide_eq_true (by first | (with_reducible assumption) | assumption)
            obtain ⟨ad286, e286, hx286_0⟩ := Kd.at_string (Kd.R_reads' HO_4.out).2.2 3 p286 q286
            obtain rfl : ad279 = ad286 := (by injection e286)
            (try simp only [show (3 : Int).toNat = 3 from rfl, Nat.reduceMul, Nat.reduceEqDiff, Go.Addr.add, ↓reduceIte] at hx286_0)
            have qi286 : (3 < t275.length) = True := eq_true (by omega)
            (try rw [show ((3 : Int)).toNat = 3 from rfl] at hx286_0)
            replace p286 := eq_true p286
            replace q286 := eq_true q286
            have p287 : 0 ≤ (4 : Int) := (by omega)
            have q287 : 4 < (t275.length : Int) := of_decide_eq_true (by first | (with_reducible assumption) | assumption)
            obtain ⟨ad287, e287, hx287_0⟩ := Kd.at_string (Kd.R_reads' HO_4.out).2.2 4 p287 q287
            obtain rfl : ad279 = ad287 := (by injection e287)
            (try simp only [show (4 : Int).toNat = 4 from rfl, Nat.reduceMul, Nat.reduceEqDiff, Go.Addr.add, ↓reduceIte] at hx287_0)
            have qi287 : (4 < t275.length) = True := eq_true (by omega)
            (try rw [show ((4 : Int)).toNat = 4 from rfl] at hx287_0)
            replace p287 := eq_true p287
            replace q287 := eq_true q287
            refine start_ (n := 16) (S := fun w' => w'.cell? ad279 = some (.string (rdOf ByteArray.empty t275 0)) ∧ w'.cell? ⟨ad279.block, ad279.off + 3, none⟩ = some (.string (rdOf ByteArray.empty t275 3)) ∧ w'.cell? ⟨ad279.block, ad279.off + 4, none⟩ = some (.string (rdOf ByteArray.empty t275 4))) (ds := []) #[false, false, false, false, false, false, false, false, false, false, false, false, false, false, false, false] (by kernel_rfl) rfl rfl ⟨hx285_0, hx286_0, hx287_0⟩ (fun hHeld => ?_); refine with_tabW fresh_Take.tab6 fresh_Take.bits6 (fun HT_ HW_ => ?_)
            generalize w39.drew = w40 at HO_4 BK274 HB hx285_0 hx286_0 hx287_0 hHeld ⊢
            refine pure_ (i := 0) (N := some 38) (v := ?_) (a' := ?_) #[true, false, false, false, false, false, false, false, false, false, false, false, false, false, false, false] rfl rfl (any_of HT_.out (by kernel_rfl)) (fun _ _ _ h => h) (Or.inl ⟨by rfl, ?_⟩) ?_ ?_
            rotate_left
            ·intro w'
             go_simp
             with_reducible rfl
            rotate_left
            ·simp only [Act.put, List.setIfInBounds_toArray, List.set_cons_zero, List.set_cons_succ, i64_w, i32_w]
             rfl
            refine pure_ (i := 1) (N := some 39) (v := ?_) (a' := ?_) #[true, true, false, false, false, false, false, false, false, false, false, false, false, false, false, false] rfl rfl (any_of HT_.out (by kernel_rfl)) (fun _ _ _ h => h) (Or.inl ⟨by rfl, ?_⟩) ?_ ?_
            rotate_left
            ·intro w'
             go_simp
             with_reducible rfl
            rotate_left
            ·simp only [Act.put, List.setIfInBounds_toArray, List.set_cons_zero, List.set_cons_succ, i64_w, i32_w]
             rfl
            refine pure_ (i := 3) (N := some 41) (v := ?_) (a' := ?_) #[true, true, false, true, false, false, false, false, false, false, false, false, false, false, false, false] rfl rfl (any_of HT_.out (by kernel_rfl)) (fun _ _ _ h => h) (Or.inl ⟨by rfl, ?_⟩) ?_ ?_
            rotate_left
            ·intro w'
             go_simp
             with_reducible rfl
            rotate_left
            ·simp only [Act.put, List.setIfInBounds_toArray, List.set_cons_zero, List.set_cons_succ, i64_w, i32_w]
             rfl
            refine pure_ (i := 4) (N := some 42) (v := ?_) (a' := ?_) #[true, true, false, true, true, false, false, false, false, false, false, false, false, false, false, false] rfl rfl (any_of HT_.out (by kernel_rfl)) (fun _ _ _ h => h) (Or.inl ⟨by rfl, ?_⟩) ?_ ?_
            rotate_left
            ·intro w'
             go_simp
             with_reducible rfl
            rotate_left
            ·simp only [Act.put, List.setIfInBounds_toArray, List.set_cons_zero, List.set_cons_succ, i64_w, i32_w]
             rfl
            refine pure_ (i := 5) (N := some 43) (v := ?_) (a' := ?_) #[true, true, false, true, true, true, false, false, false, false, false, false, false, false, false, false] rfl rfl (any_of HT_.out (by kernel_rfl)) (fun _ _ _ h => h) (Or.inl ⟨by rfl, ?_⟩) ?_ ?_
            rotate_left
            ·intro w'
             go_simp
             with_reducible rfl
            rotate_left
            ·simp only [Act.put, List.setIfInBounds_toArray, List.set_cons_zero, List.set_cons_succ, i64_w, i32_w]
             rfl
            refine pure_ (i := 6) (N := some 44) (v := ?_) (a' := ?_) #[true, true, false, true, true, true, true, false, false, false, false, false, false, false, false, false] rfl rfl (any_of HT_.out (by kernel_rfl)) (fun _ _ _ h => h) (Or.inl ⟨by rfl, ?_⟩) ?_ ?_
            rotate_left
            ·intro w'
             go_simp
             with_reducible rfl
            rotate_left
            ·simp only [Act.put, List.setIfInBounds_toArray, List.set_cons_zero, List.set_cons_succ, i64_w, i32_w]
             rfl
            refine pure_ (i := 7) (N := some 45) (v := ?_) (a' := ?_) #[true, true, false, true, true, true, true, true, false, false, false, false, false, false, false, false] rfl rfl (any_of HT_.out (by kernel_rfl)) (fun _ _ _ h => h) (Or.inl ⟨by rfl, ?_⟩) ?_ ?_
            rotate_left
            ·intro w'
             go_simp
             with_reducible rfl
            rotate_left
            ·simp only [Act.put, List.setIfInBounds_toArray, List.set_cons_zero, List.set_cons_succ, i64_w, i32_w]
             rfl
            refine pure_ (i := 8) (N := some 46) (v := ?_) (a' := ?_) #[true, true, false, true, true, true, true, true, true, false, false, false, false, false, false, false] rfl rfl (any_of HT_.out (by kernel_rfl)) (fun _ _ _ h => h) (Or.inl ⟨by rfl, ?_⟩) ?_ ?_
            rotate_left
            ·intro w'
             go_simp
             with_reducible rfl
            rotate_left
            ·simp only [Act.put, List.setIfInBounds_toArray, List.set_cons_zero, List.set_cons_succ, i64_w, i32_w]
             rfl
            refine pure_ (i := 10) (N := some 48) (v := ?_) (a' := ?_) #[true, true, false, true, true, true, true, true, true, false, true, false, false, false, false, false] rfl rfl (any_of HT_.out (by kernel_rfl)) (fun _ _ _ h => h) (Or.inl ⟨by rfl, ?_⟩) ?_ ?_
            rotate_left
            ·intro w'
             go_simp
             with_reducible rfl
            rotate_left
            ·simp only [Act.put, List.setIfInBounds_toArray, List.set_cons_zero, List.set_cons_succ, i64_w, i32_w]
             rfl
            refine pure_ (i := 11) (N := some 49) (v := ?_) (a' := ?_) #[true, true, false, true, true, true, true, true, true, false, true, true, false, false, false, false] rfl rfl (any_of HT_.out (by kernel_rfl)) (fun _ _ _ h => h) (Or.inl ⟨by rfl, ?_⟩) ?_ ?_
            rotate_left
            ·intro w'
             go_simp
             with_reducible rfl
            rotate_left
            ·simp only [Act.put, List.setIfInBounds_toArray, List.set_cons_zero, List.set_cons_succ, i64_w, i32_w]
             rfl
            refine take_ (i := 2) (N := some 40) (v := ?_) (a' := ?_) #[true, true, true, true, true, true, true, true, true, false, true, true, false, false, false, false] rfl rfl (take_ofW HT_.out HW_.out (by kernel_rfl)) (fun _ _ _ h => h) (Or.inl ⟨by rfl, ?_⟩) hHeld ?_ ?_
            rotate_left
            ·rintro w' ⟨s0, s1, s2⟩
             go_simp
             with_reducible rfl
            rotate_left
            ·simp only [Act.put, List.setIfInBounds_toArray, List.set_cons_zero, List.set_cons_succ, i64_w, i32_w]
             rfl
            refine take_ (i := 9) (N := some 47) (v := ?_) (a' := ?_) #[true, true, true, true, true, true, true, true, true, true, true, true, false, false, false, false] rfl rfl (take_ofW HT_.out HW_.out (by kernel_rfl)) (fun _ _ _ h => h) (Or.inl ⟨by rfl, ?_⟩) hHeld ?_ ?_
            rotate_left
            ·rintro w' ⟨s0, s1, s2⟩
             go_simp
             with_reducible rfl
            rotate_left
            ·simp only [Act.put, List.setIfInBounds_toArray, List.set_cons_zero, List.set_cons_succ, i64_w, i32_w]
             rfl
            refine take_ (i := 12) (N := some 50) (v := ?_) (a' := ?_) #[true, true, true, true, true, true, true, true, true, true, true, true, true, false, false, false] rfl rfl (take_ofW HT_.out HW_.out (by kernel_rfl)) (fun _ _ _ h => h) (Or.inl ⟨by rfl, ?_⟩) hHeld ?_ ?_
            rotate_left
            ·rintro w' ⟨s0, s1, s2⟩
             go_simp
             with_reducible rfl
            rotate_left
            ·simp only [Act.put, List.setIfInBounds_toArray, List.set_cons_zero, List.set_cons_succ, i64_w, i32_w]
             rfl
            refine pure_ (i := 13) (N := some 51) (v := ?_) (a' := ?_) #[true, true, true, true, true, true, true, true, true, true, true, true, true, true, false, false] rfl rfl (any_of HT_.out (by kernel_rfl)) (fun _ _ _ h => h) (Or.inl ⟨by rfl, ?_⟩) ?_ ?_
            rotate_left
            ·intro w'
             go_simp
             with_reducible rfl
            rotate_left
            ·simp only [Act.put, List.setIfInBounds_toArray, List.set_cons_zero, List.set_cons_succ, i64_w, i32_w]
             rfl
            refine one_ (i := 14) (N := some 10) #[true, true, true, true, true, true, true, true, true, true, true, true, true, true, true, false] rfl rfl (one_of HT_.out (by kernel_rfl)) (by decide) (fun K hK => ?_)
            refine box_step ?hg (N := 10) ?hd (cs := #[.string (⟨#[]⟩ : ByteArray), .int .u64 0, .int .i64 0, .string (⟨#[]⟩ : ByteArray), .string (⟨#[]⟩ : ByteArray)]) (t := 28) ?hr ?_; (case hd => rfl); (case hg => rfl); (case hr => first | (go_simp; done) | (go_simp; rfl))
            intro gb288 hg w41 hbox hb
            have HS0_ := (hb.cell (World.block_lt_of_cell? _ _ (hHeld.1))).trans (hHeld.1)
            have HS1_ := (hb.cell (World.block_lt_of_cell? _ _ (hHeld.2.1))).trans (hHeld.2.1)
            have HS2_ := (hb.cell (World.block_lt_of_cell? _ _ (hHeld.2.2))).trans (hHeld.2.2)
            have n0_ := Aside0.mk (Kd.R_below (by (with_reducible repeat (first | apply Kd.R_alloc | apply Kd.R_drewN | apply Kd.R_drew)); exact HO_4.out) hb)
            have n1_ := Aside0.mk (blk_below (g := gb274) (o := .cells #[.string (⟨#[]⟩ : ByteArray), .int .u64 0, .int .i64 0, .string (⟨#[]⟩ : ByteArray), .string (⟨#[]⟩ : ByteArray)] 28 (0, 0)) (by (with_reducible repeat (first | refine blk_drewN ?_ _ | refine blk_drew ?_ | refine blk_alloc ?_ _)); exact BK274.out) hb)
            have n2_ := Aside0.mk (below_step (by repeat (first | (with_reducible first | exact HB.out | apply below_alloc | apply pw_below_drewN | apply below_drew1 | refine below_set ?_ GE274.out) | exact HB.out)) hb)
            have n3_ := Aside0.mk (hbox)
            have n4_ := Aside0.mk ((by rw [hg]; exact (below_size (by repeat (first | (with_reducible first | exact HB.out | apply below_alloc | apply pw_below_drewN | apply below_drew1 | refine below_set ?_ GE274.out) | exact HB.out))) : w.heap.size ≤ gb288))
            have n5_ := Aside0.mk ((by rw [hg]; exact (below_size (by repeat (first | (with_reducible first | exact HB.out | apply below_alloc | apply pw_below_drewN | apply below_drew1 | refine below_set ?_ GE274.out) | exact HB.out))) : w.heap.size ≤ gb288))
            have n6_ := Aside0.mk ((by rw [hg]; exact Nat.ne_of_lt (blk_lt (g := gb274) (o := .cells #[.string (⟨#[]⟩ : ByteArray), .int .u64 0, .int .i64 0, .string (⟨#[]⟩ : ByteArray), .string (⟨#[]⟩ : ByteArray)] 28 (0, 0)) (by (with_reducible repeat (first | refine blk_drewN ?_ _ | refine blk_drew ?_ | refine blk_alloc ?_ _)); exact BK274.out)) : gb274 ≠ gb288))
            have n7_ := Aside0.mk ((by rw [hg]; exact Nat.ne_of_gt (blk_lt (g := gb274) (o := .cells #[.string (⟨#[]⟩ : ByteArray), .int .u64 0, .int .i64 0, .string (⟨#[]⟩ : ByteArray), .string (⟨#[]⟩ : ByteArray)] 28 (0, 0)) (by (with_reducible repeat (first | refine blk_drewN ?_ _ | refine blk_drew ?_ | refine blk_alloc ?_ _)); exact BK274.out)) : gb288 ≠ gb274))
            clear HO_4
            clear BK274
            clear HB
            have HO_4 := n0_
            have BK274 := n1_
            have HB := n2_
            have BK288 := n3_
            have GW288 := n4_
            have GE288 := n5_
            have NB274_288 := n6_
            have NB288_274 := n7_
            clear n0_ n1_ n2_ n3_ n4_ n5_ n6_ n7_
            clear hb hbox hg
            refine hK.out _ _ ⟨HS0_, HS1_, HS2_⟩ (fun hHeld => ?_)
            clear hK K
            refine norm_ (a' := ?_) ?_ ?_
            rotate_left
            ·show Act.put _ (some 10) _ = _
             simp only [Act.put, List.setIfInBounds_toArray, List.set_cons_zero, List.set_cons_succ, i64_w, i32_w]
             rfl
            refine one_ (i := 15) (N := none) #[true, true, true, true, true, true, true, true, true, true, true, true, true, true, true, true] rfl rfl (one_of HT_.out (by kernel_rfl)) (by decide) (fun K hK => ?_)
            have hs42 : w41.cell? ⟨gb288, 0, none⟩ = some (.string (⟨#[]⟩ : ByteArray)) := (blk_cell BK288.out 0).trans rfl
            have hfs42 := blk_frozen BK288.out 0
            have hns42_0 := NB274_288.out
            have hms42_0 := NB288_274.out
            have hs43 : w41.cell? ⟨gb288, 1, none⟩ = some (.int .u64 0) := (blk_cell BK288.out 1).trans rfl
            have hfs43 := blk_frozen BK288.out 1
            have hns43_0 := NB274_288.out
            have hms43_0 := NB288_274.out
            have hs44 : w41.cell? ⟨gb288, 2, none⟩ = some (.int .i64 0) := (blk_cell BK288.out 2).trans rfl
            have hfs44 := blk_frozen BK288.out 2
            have hns44_0 := NB274_288.out
            have hms44_0 := NB288_274.out
            have hs45 : w41.cell? ⟨gb288, 3, none⟩ = some (.string (⟨#[]⟩ : ByteArray)) := (blk_cell BK288.out 3).trans rfl
            have hfs45 := blk_frozen BK288.out 3
            have hns45_0 := NB274_288.out
            have hms45_0 := NB288_274.out
            have hs46 : w41.cell? ⟨gb288, 4, none⟩ = some (.string (⟨#[]⟩ : ByteArray)) := (blk_cell BK288.out 4).trans rfl
            have hfs46 := blk_frozen BK288.out 4
            have hns46_0 := NB274_288.out
            have hms46_0 := NB288_274.out
            refine skip_ (w1 := ?_) (by rfl) rfl ?_ ?_
            rotate_left
            ·refine' fresh_Take.store5 _ _ _ _ ?ho_ _ gb288 _ _ _ _ _ ?hp_ ?hv_ BK288.out
             case ho_ => rfl
             case hp_ => rfl
             case hv_ => rfl
            have hne_ : ad279.block ≠ gb288 := Kd.own_blk (Kd.R_ne HO_4.out BK288.out (by decide))
            refine hK.out _ _ ⟨(fresh_Take.far5 hne_ _ _ _ _ _).trans hHeld.1, (fresh_Take.far5 (a := ⟨ad279.block, _, none⟩) hne_ _ _ _ _ _).trans hHeld.2.1, (fresh_Take.far5 (a := ⟨ad279.block, _, none⟩) hne_ _ _ _ _ _).trans hHeld.2.2⟩ (fun hHeld => ?_)
            clear hne_
            clear hK K
            refine done_ (done_of HT_.out (by kernel_rfl)) ?_
            have q0_ : (((((w41.setCell ⟨gb288, 0, none⟩ (.string (rdOf ByteArray.empty t275 0))).setCell ⟨gb288, 1, none⟩ (.int .u64 t280)).setCell ⟨gb288, 2, none⟩ (.int .i64 (wrap64 (ji15)))).setCell ⟨gb288, 3, none⟩ (.string (rdOf ByteArray.empty t275 3))).setCell ⟨gb288, 4, none⟩ (.string (rdOf ByteArray.empty t275 4))).heap[gb288]? = some (.cells #[.string (rdOf ByteArray.empty t275 0), .int .u64 t280, .int .i64 (wrap64 (ji15)), .string (rdOf ByteArray.empty t275 3), .string (rdOf ByteArray.empty t275 4)] 28 (0, 0)) := (blk_put (blk_put (blk_put (blk_put (blk_put BK288.out 0 (.string (rdOf ByteArray.empty t275 0)) rfl) 1 (.int .u64 t280) rfl) 2 (.int .i64 (wrap64 (ji15))) rfl) 3 (.string (rdOf ByteArray.empty t275 3)) rfl) 4 (.string (rdOf ByteArray.empty t275 4)) rfl)
            have q1_ : (((((w41.setCell ⟨gb288, 0, none⟩ (.string (rdOf ByteArray.empty t275 0))).setCell ⟨gb288, 1, none⟩ (.int .u64 t280)).setCell ⟨gb288, 2, none⟩ (.int .i64 (wrap64 (ji15)))).setCell ⟨gb288, 3, none⟩ (.string (rdOf ByteArray.empty t275 3))).setCell ⟨gb288, 4, none⟩ (.string (rdOf ByteArray.empty t275 4))).heap[gb274]? = some (.cells #[.string (⟨#[]⟩ : ByteArray), .int .u64 0, .int .i64 0, .string (⟨#[]⟩ : ByteArray), .string (⟨#[]⟩ : ByteArray)] 28 (0, 0)) := (blk_far (blk_far (blk_far (blk_far (blk_far BK274.out NB274_288.out (.string (rdOf ByteArray.empty t275 0))) NB274_288.out (.int .u64 t280)) NB274_288.out (.int .i64 (wrap64 (ji15)))) NB274_288.out (.string (rdOf ByteArray.empty t275 3))) NB274_288.out (.string (rdOf ByteArray.empty t275 4)))
            have q2_ : Below w.heap.size w (((((w41.setCell ⟨gb288, 0, none⟩ (.string (rdOf ByteArray.empty t275 0))).setCell ⟨gb288, 1, none⟩ (.int .u64 t280)).setCell ⟨gb288, 2, none⟩ (.int .i64 (wrap64 (ji15)))).setCell ⟨gb288, 3, none⟩ (.string (rdOf ByteArray.empty t275 3))).setCell ⟨gb288, 4, none⟩ (.string (rdOf ByteArray.empty t275 4))) := (below_set (below_set (below_set (below_set (below_set HB.out GE288.out) GE288.out) GE288.out) GE288.out) GE288.out)
            have q3_ := Kd.R_mono (Kd.R_far (p := ⟨gb288, 4, none⟩) (Kd.R_far (p := ⟨gb288, 3, none⟩) (Kd.R_far (p := ⟨gb288, 2, none⟩) (Kd.R_far (p := ⟨gb288, 1, none⟩) (Kd.R_far (p := ⟨gb288, 0, none⟩) (Kd.R_types HO_4.out BK288.out (by decide)) (fun _ hk => hk.2) (.string (rdOf ByteArray.empty t275 0))) (fun _ hk => hk.2) (.int .u64 t280)) (fun _ hk => hk.2) (.int .i64 (wrap64 (ji15)))) (fun _ hk => hk.2) (.string (rdOf ByteArray.empty t275 3))) (fun _ hk => hk.2) (.string (rdOf ByteArray.empty t275 4))) (fun _ h_ => h_.1)
            clear HO_4 BK288 BK274 HB hHeld
            have HO_4 := Aside0.mk q3_
            have BK274 := Aside0.mk q1_
            have BK288 := Aside0.mk q0_
            have HB := Aside0.mk q2_
            clear q0_ q1_ q2_ q3_
            (try clear HS0_)
            (try clear HS1_)
            (try clear HS2_)
            generalize (((((w41.setCell ⟨gb288, 0, none⟩ (.string (rdOf ByteArray.empty t275 0))).setCell ⟨gb288, 1, none⟩ (.int .u64 t280)).setCell ⟨gb288, 2, none⟩ (.int .i64 (wrap64 (ji15)))).setCell ⟨gb288, 3, none⟩ (.string (rdOf ByteArray.empty t275 3))).setCell ⟨gb288, 4, none⟩ (.string (rdOf ByteArray.empty t275 4))) = w41 at HO_4 BK274 BK288 HB ⊢
            have hnb47 := NB288_274.out
            have hnc47 := NB274_288.out
            have hcz48_0 : w41.cell? ⟨gb288, 0, none⟩ = some (.string (rdOf ByteArray.empty t275 0)) := (blk_cell BK288.out 0).trans rfl
            have hcz48_1 : w41.cell? ⟨gb288, 1, none⟩ = some (.int .u64 t280) := (blk_cell BK288.out 1).trans rfl
            have hcz48_2 : w41.cell? ⟨gb288, 2, none⟩ = some (.int .i64 (wrap64 (ji15))) := (blk_cell BK288.out 2).trans rfl
            have hcz48_3 : w41.cell? ⟨gb288, 3, none⟩ = some (.string (rdOf ByteArray.empty t275 3)) := (blk_cell BK288.out 3).trans rfl
            have hcz48_4 : w41.cell? ⟨gb288, 4, none⟩ = some (.string (rdOf ByteArray.empty t275 4)) := (blk_cell BK288.out 4).trans rfl
            have hfz48_0 := blk_frozen BK288.out 0
            have hfz48_1 := blk_frozen BK288.out 1
            have hfz48_2 := blk_frozen BK288.out 2
            have hfz48_3 := blk_frozen BK288.out 3
            have hfz48_4 := blk_frozen BK288.out 4
            try go_wp2_with (first | (go_at_call 31; (with_reducible refine (fresh_Right.calls kj2 (rdOf ByteArray.empty t275 0) t280 (wrap64 (ji15)) (rdOf ByteArray.empty t275 3) (rdOf ByteArray.empty t275 4) false _ A20.out ?sidev).mono ?_); (case sidev => exact Laid8.below HV.out (by repeat (first | (with_reducible first | exact HB.out | apply below_alloc | apply pw_below_drewN | apply below_drew1 | refine below_set ?_ GE274.out | refine below_set ?_ GE288.out) | exact HB.out))); rintro e w49 ⟨rfl, hb⟩; have n0_ := Aside0.mk (Kd.R_below (by (with_reducible repeat (first | apply Kd.R_alloc | apply Kd.R_drewN | apply Kd.R_drew)); exact HO_4.out) hb); have n1_ := Aside0.mk (blk_below (g := gb274) (o := .cells #[.string (⟨#[]⟩ : ByteArray), .int .u64 0, .int .i64 0, .string (⟨#[]⟩ : ByteArray), .string (⟨#[]⟩ : ByteArray)] 28 (0, 0)) (by (with_reducible repeat (first | refine blk_drewN ?_ _ | refine blk_drew ?_ | refine blk_alloc ?_ _)); exact BK274.out) hb); have n2_ := Aside0.mk (blk_below (g := gb288) (o := .cells #[.string (rdOf ByteArray.empty t275 0), .int .u64 t280, .int .i64 (wrap64 (ji15)), .string (rdOf ByteArray.empty t275 3), .string (rdOf ByteArray.empty t275 4)] 28 (0, 0)) (by (with_reducible repeat (first | refine blk_drewN ?_ _ | refine blk_drew ?_ | refine blk_alloc ?_ _)); exact BK288.out) hb); have n3_ := Aside0.mk (below_step (by repeat (first | (with_reducible first | exact HB.out | apply below_alloc | apply pw_below_drewN | apply below_drew1 | refine below_set ?_ GE274.out | refine below_set ?_ GE288.out) | exact HB.out)) hb); clear HO_4; clear BK274; clear BK288; clear HB; have HO_4 := n0_; have BK274 := n1_; have BK288 := n2_; have HB := n3_; clear n0_ n1_ n2_ n3_; (try clear hb); (try clear hb2); (try clear hk); (try clear hi); have hcz50_0 : w49.cell? ⟨gb274, 0, none⟩ = some (.string (⟨#[]⟩ : ByteArray)) := (blk_cell BK274.out 0).trans rfl; have hcz50_1 : w49.cell? ⟨gb274, 1, none⟩ = some (.int .u64 0) := (blk_cell BK274.out 1).trans rfl; have hcz50_2 : w49.cell? ⟨gb274, 2, none⟩ = some (.int .i64 0) := (blk_cell BK274.out 2).trans rfl; have hcz50_3 : w49.cell? ⟨gb274, 3, none⟩ = some (.string (⟨#[]⟩ : ByteArray)) := (blk_cell BK274.out 3).trans rfl; have hcz50_4 : w49.cell? ⟨gb274, 4, none⟩ = some (.string (⟨#[]⟩ : ByteArray)) := (blk_cell BK274.out 4).trans rfl; have hfz50_0 := blk_frozen BK274.out 0; have hfz50_1 := blk_frozen BK274.out 1; have hfz50_2 := blk_frozen BK274.out 2; have hfz50_3 := blk_frozen BK274.out 3; have hfz50_4 := blk_frozen BK274.out 4))
            refine bodyPost_ret (results_ct rfl _ _ gb274 28 #[.string (⟨#[]⟩ : ByteArray), .int .u64 0, .int .i64 0, .string (⟨#[]⟩ : ByteArray), .string (⟨#[]⟩ : ByteArray)] (0, 0) _ rfl (by (with_reducible repeat (first | refine blk_drewN ?_ _ | refine blk_drew ?_ | refine blk_alloc ?_ _)); refine blk_put (cs := #[.string (⟨#[]⟩ : ByteArray), .int .u64 0, .int .i64 0, .string (⟨#[]⟩ : ByteArray), .string (⟨#[]⟩ : ByteArray)]) ?_ 4 _ rfl; (with_reducible repeat (first | refine blk_drewN ?_ _ | refine blk_drew ?_ | refine blk_alloc ?_ _)); refine blk_put (cs := #[.string (⟨#[]⟩ : ByteArray), .int .u64 0, .int .i64 0, .string (⟨#[]⟩ : ByteArray), .string (⟨#[]⟩ : ByteArray)]) ?_ 3 _ rfl; (with_reducible repeat (first | refine blk_drewN ?_ _ | refine blk_drew ?_ | refine blk_alloc ?_ _)); refine blk_put (cs := #[.string (⟨#[]⟩ : ByteArray), .int .u64 0, .int .i64 0, .string (⟨#[]⟩ : ByteArray), .string (⟨#[]⟩ : ByteArray)]) ?_ 2 _ rfl; (with_reducible repeat (first | refine blk_drewN ?_ _ | refine blk_drew ?_ | refine blk_alloc ?_ _)); refine blk_put (cs := #[.string (⟨#[]⟩ : ByteArray), .int .u64 0, .int .i64 0, .string (⟨#[]⟩ : ByteArray), .string (⟨#[]⟩ : ByteArray)]) ?_ 1 _ rfl; (with_reducible repeat (first | refine blk_drewN ?_ _ | refine blk_drew ?_ | refine blk_alloc ?_ _)); refine blk_put (cs := #[.string (⟨#[]⟩ : ByteArray), .int .u64 0, .int .i64 0, .string (⟨#[]⟩ : ByteArray), .string (⟨#[]⟩ : ByteArray)]) ?_ 0 _ rfl; (with_reducible repeat (first | refine blk_drewN ?_ _ | refine blk_drew ?_ | refine blk_alloc ?_ _)); exact BK274.out) Tryd.underlying28 rfl (by kernel_rfl)) rfl ?_
            exact ⟨by first | rfl | (simp [errW_none, errW_some] <;> rfl) | (simp only [← hji15]; first | rfl | (simp [errW_none, errW_some] <;> rfl)) | (simp [*, errW_none, errW_some] <;> rfl), by repeat (first | (with_reducible first | exact HB.out | apply below_alloc | apply pw_below_drewN | apply below_drew1 | refine below_set ?_ GE274.out | refine below_set ?_ GE288.out) | exact HB.out)⟩
          ·replace c19 := Bool.eq_false_iff.mpr c19
           subst c19
           have H1 : (some ((⟨#[]⟩ : ByteArray), 0, 0, (⟨#[]⟩ : ByteArray), (⟨#[]⟩ : ByteArray), 2)) = some (r1, r2, r3, r4, r5, r6) := by rw [if_neg (show ¬ (false = true) by decide)] at H; exact H
           clear H
           have H := H1
           clear H1
           simp only [Option.some.injEq, Prod.mk.injEq] at H
           obtain ⟨rfl, rfl, rfl, rfl, rfl, rfl⟩ := H
           obtain ⟨Ao51, co51, eo51⟩ := Kd.R_slice HO_4.out
           subst eo51
           have p279 : 0 ≤ (1 : Int) := (by omega)
           have q279 : 1 < (t275.length : Int) := of_decide_eq_true (by first | (with_reducible assumption) | assumption)
           obtain ⟨ad279, e279, hx279_0⟩ := Kd.at_string (Kd.R_reads' HO_4.out).2.2 1 p279 q279
           cases e279
           (try simp only [show (1 : Int).toNat = 1 from rfl, Nat.reduceMul, Nat.reduceEqDiff, Go.Addr.add, ↓reduceIte] at hx279_0)
           have qi279 : (1 < t275.length) = True := eq_true (by omega)
           (try rw [show ((1 : Int)).toNat = 1 from rfl] at hx279_0)
           replace p279 := eq_true p279
           replace q279 := eq_true q279
           try go_wp2_with (first | ((with_reducible refine gate_callee (f := 41) rfl ?_); refine goesL_ (some 28) rfl rfl Tryd.func41 (by kernel_rfl) rfl #[.string (rdOf ByteArray.empty t275 1)] rfl (by (try simp only [List.map_toArray, List.map_cons, List.map_nil]); first | done | rfl | (simp only [List.length_drop, List.length_take]; rfl)) ?_; (with_reducible refine (fresh_number.calls (rdOf ByteArray.empty t275 1) t280 true _ A11.out).mono ?_); rintro e w52 ⟨rfl, hb⟩; refine ⟨_, rfl, ?_⟩; have n0_ := Aside0.mk (Kd.R_below (by (with_reducible repeat (first | apply Kd.R_alloc | apply Kd.R_drewN | apply Kd.R_drew)); exact HO_4.out) hb); have n1_ := Aside0.mk (blk_below (g := gb274) (o := .cells #[.string (⟨#[]⟩ : ByteArray), .int .u64 0, .int .i64 0, .string (⟨#[]⟩ : ByteArray), .string (⟨#[]⟩ : ByteArray)] 28 (0, 0)) (by (with_reducible repeat (first | refine blk_drewN ?_ _ | refine blk_drew ?_ | refine blk_alloc ?_ _)); exact BK274.out) hb); have n2_ := Aside0.mk (below_step (by repeat (first | (with_reducible first | exact HB.out | apply below_alloc | apply pw_below_drewN | apply below_drew1 | refine below_set ?_ GE274.out) | exact HB.out)) hb); clear HO_4; clear BK274; clear HB; have HO_4 := n0_; have BK274 := n1_; have HB := n2_; clear n0_ n1_ n2_; (try clear hb); (try clear hb2); (try clear hk); (try clear hi); have p282 : 0 ≤ (2 : Int) := (by omega); have q282 : 2 < (t275.length : Int) := of_decide_eq_true (by first | (with_reducible assumption) | assumption); obtain ⟨ad282, e282, hx282_0⟩ := Kd.at_string (Kd.R_reads' HO_4.out).2.2 2 p282 q282; obtain rfl : ad279 = ad282 := (by injection e282); (try simp only [show (2 : Int).toNat = 2 from rfl, Nat.reduceMul, Nat.reduceEqDiff, Go.Addr.add, ↓reduceIte] at hx282_0); have qi282 : (2 < t275.length) = True := eq_true (by omega); (try rw [show ((2 : Int)).toNat = 2 from rfl] at hx282_0); replace p282 := eq_true p282; replace q282 := eq_true q282) | ((with_reducible refine gate_callee (f := 41) rfl ?_); refine goesL_ (some 35) rfl rfl Tryd.func41 (by kernel_rfl) rfl #[.string (rdOf ByteArray.empty t275 2)] rfl (by (try simp only [List.map_toArray, List.map_cons, List.map_nil]); first | done | rfl | (simp only [List.length_drop, List.length_take]; rfl)) ?_; (with_reducible refine (fresh_number.calls (rdOf ByteArray.empty t275 2) t283 false _ A13.out).mono ?_); rintro e w53 ⟨rfl, hb⟩; refine ⟨_, rfl, ?_⟩; have n0_ := Aside0.mk (Kd.R_below (by (with_reducible repeat (first | apply Kd.R_alloc | apply Kd.R_drewN | apply Kd.R_drew)); exact HO_4.out) hb); have n1_ := Aside0.mk (blk_below (g := gb274) (o := .cells #[.string (⟨#[]⟩ : ByteArray), .int .u64 0, .int .i64 0, .string (⟨#[]⟩ : ByteArray), .string (⟨#[]⟩ : ByteArray)] 28 (0, 0)) (by (with_reducible repeat (first | refine blk_drewN ?_ _ | refine blk_drew ?_ | refine blk_alloc ?_ _)); exact BK274.out) hb); have n2_ := Aside0.mk (below_step (by repeat (first | (with_reducible first | exact HB.out | apply below_alloc | apply pw_below_drewN | apply below_drew1 | refine below_set ?_ GE274.out) | exact HB.out)) hb); clear HO_4; clear BK274; clear HB; have HO_4 := n0_; have BK274 := n1_; have HB := n2_; clear n0_ n1_ n2_; (try clear hb); (try clear hb2); (try clear hk); (try clear hi)))
           have n0_ := Aside0.mk (Kd.R_drew HO_4.out)
           have n1_ := Aside0.mk (blk_drew BK274.out)
           have n2_ := Aside0.mk (below_drew1 HB.out)
           clear HO_4
           clear BK274
           clear HB
           have HO_4 := n0_
           have BK274 := n1_
           have HB := n2_
           clear n0_ n1_ n2_
           have p285 : 0 ≤ (0 : Int) := (by omega)
           have q285 : 0 < (t275.length : Int) := of_decide_eq_true (by first | (with_reducible assumption) | assumption)
           obtain ⟨ad285, e285, hx285_0⟩ := Kd.at_string (Kd.R_reads' HO_4.out).2.2 0 p285 q285
           obtain rfl : ad279 = ad285 := (by injection e285)
           have qi285 : (0 < t275.length) = True := eq_true (by omega)
           (try rw [show ((0 : Int)).toNat = 0 from rfl] at hx285_0)
           (try rw [Addr.add_zero'] at hx285_0)
           replace p285 := eq_true p285
           replace q285 := eq_true q285
           have p286 : 0 ≤ (3 : Int) := (by omega)
           have q286 : 3 < (t275.length : Int) := of_decide_eq_true (by first | (with_reducible assumption) | assumption)
           obtain ⟨ad286, e286, hx286_0⟩ := Kd.at_string (Kd.R_reads' HO_4.out).2.2 3 p286 q286
           obtain rfl : ad279 = ad286 := (by injection e286)
           (try simp only [show (3 : Int).toNat = 3 from rfl, Nat.reduceMul, Nat.reduceEqDiff, Go.Addr.add, ↓reduceIte] at hx286_0)
           have qi286 : (3 < t275.length) = True := eq_true (by omega)
           (try rw [show ((3 : Int)).toNat = 3 from rfl] at hx286_0)
           replace p286 := eq_true p286
           replace q286 := eq_true q286
           have p287 : 0 ≤ (4 : Int) := (by omega)
           have q287 : 4 < (t275.length : Int) := of_decide_eq_true (by first | (with_reducible assumption) | assumption)
           obtain ⟨ad287, e287, hx287_0⟩ := Kd.at_string (Kd.R_reads' HO_4.out).2.2 4 p287 q287
           obtain rfl : ad279 = ad287 := (by injection e287)
           (try simp only [show (4 : Int).toNat = 4 from rfl, Nat.reduceMul, Nat.reduceEqDiff, Go.Addr.add, ↓reduceIte] at hx287_0)
           have qi287 : (4 < t275.length) = True := eq_true (by omega)
           (try rw [show ((4 : Int)).toNat = 4 from rfl] at hx287_0)
           replace p287 := eq_true p287
           replace q287 := eq_true q287
           refine start_ (n := 16) (S := fun w' => w'.cell? ad279 = some (.string (rdOf ByteArray.empty t275 0)) ∧ w'.cell? ⟨ad279.block, ad279.off + 3, none⟩ = some (.string (rdOf ByteArray.empty t275 3)) ∧ w'.cell? ⟨ad279.block, ad279.off + 4, none⟩ = some (.string (rdOf ByteArray.empty t275 4))) (ds := []) #[false, false, false, false, false, false, false, false, false, false, false, false, false, false, false, false] (by kernel_rfl) rfl rfl ⟨hx285_0, hx286_0, hx287_0⟩ (fun hHeld => ?_); refine with_tabW fresh_Take.tab6 fresh_Take.bits6 (fun HT_ HW_ => ?_)
           generalize w53.drew = w54 at HO_4 BK274 HB hx285_0 hx286_0 hx287_0 hHeld ⊢
           refine pure_ (i := 0) (N := some 38) (v := ?_) (a' := ?_) #[true, false, false, false, false, false, false, false, false, false, false, false, false, false, false, false] rfl rfl (any_of HT_.out (by kernel_rfl)) (fun _ _ _ h => h) (Or.inl ⟨by rfl, ?_⟩) ?_ ?_
           rotate_left
           ·intro w'
            go_simp
            with_reducible rfl
           rotate_left
           ·simp only [Act.put, List.setIfInBounds_toArray, List.set_cons_zero, List.set_cons_succ, i64_w, i32_w]
            rfl
           refine pure_ (i := 1) (N := some 39) (v := ?_) (a' := ?_) #[true, true, false, false, false, false, false, false, false, false, false, false, false, false, false, false] rfl rfl (any_of HT_.out (by kernel_rfl)) (fun _ _ _ h => h) (Or.inl ⟨by rfl, ?_⟩) ?_ ?_
           rotate_left
           ·intro w'
            go_simp
            with_reducible rfl
           rotate_left
           ·simp only [Act.put, List.setIfInBounds_toArray, List.set_cons_zero, List.set_cons_succ, i64_w, i32_w]
            rfl
           refine pure_ (i := 3) (N := some 41) (v := ?_) (a' := ?_) #[true, true, false, true, false, false, false, false, false, false, false, false, false, false, false, false] rfl rfl (any_of HT_.out (by kernel_rfl)) (fun _ _ _ h => h) (Or.inl ⟨by rfl, ?_⟩) ?_ ?_
           rotate_left
           ·intro w'
            go_simp
            with_reducible rfl
           rotate_left
           ·simp only [Act.put, List.setIfInBounds_toArray, List.set_cons_zero, List.set_cons_succ, i64_w, i32_w]
            rfl
           refine pure_ (i := 4) (N := some 42) (v := ?_) (a' := ?_) #[true, true, false, true, true, false, false, false, false, false, false, false, false, false, false, false] rfl rfl (any_of HT_.out (by kernel_rfl)) (fun _ _ _ h => h) (Or.inl ⟨by rfl, ?_⟩) ?_ ?_
           rotate_left
           ·intro w'
            go_simp
            with_reducible rfl
           rotate_left
           ·simp only [Act.put, List.setIfInBounds_toArray, List.set_cons_zero, List.set_cons_succ, i64_w, i32_w]
            rfl
           refine pure_ (i := 5) (N := some 43) (v := ?_) (a' := ?_) #[true, true, false, true, true, true, false, false, false, false, false, false, false, false, false, false] rfl rfl (any_of HT_.out (by kernel_rfl)) (fun _ _ _ h => h) (Or.inl ⟨by rfl, ?_⟩) ?_ ?_
           rotate_left
           ·intro w'
            go_simp
            with_reducible rfl
           rotate_left
           ·simp only [Act.put, List.setIfInBounds_toArray, List.set_cons_zero, List.set_cons_succ, i64_w, i32_w]
            rfl
           refine pure_ (i := 6) (N := some 44) (v := ?_) (a' := ?_) #[true, true, false, true, true, true, true, false, false, false, false, false, false, false, false, false] rfl rfl (any_of HT_.out (by kernel_rfl)) (fun _ _ _ h => h) (Or.inl ⟨by rfl, ?_⟩) ?_ ?_
           rotate_left
           ·intro w'
            go_simp
            with_reducible rfl
           rotate_left
           ·simp only [Act.put, List.setIfInBounds_toArray, List.set_cons_zero, List.set_cons_succ, i64_w, i32_w]
            rfl
           refine pure_ (i := 7) (N := some 45) (v := ?_) (a' := ?_) #[true, true, false, true, true, true, true, true, false, false, false, false, false, false, false, false] rfl rfl (any_of HT_.out (by kernel_rfl)) (fun _ _ _ h => h) (Or.inl ⟨by rfl, ?_⟩) ?_ ?_
           rotate_left
           ·intro w'
            go_simp
            with_reducible rfl
           rotate_left
           ·simp only [Act.put, List.setIfInBounds_toArray, List.set_cons_zero, List.set_cons_succ, i64_w, i32_w]
            rfl
           refine pure_ (i := 8) (N := some 46) (v := ?_) (a' := ?_) #[true, true, false, true, true, true, true, true, true, false, false, false, false, false, false, false] rfl rfl (any_of HT_.out (by kernel_rfl)) (fun _ _ _ h => h) (Or.inl ⟨by rfl, ?_⟩) ?_ ?_
           rotate_left
           ·intro w'
            go_simp
            with_reducible rfl
           rotate_left
           ·simp only [Act.put, List.setIfInBounds_toArray, List.set_cons_zero, List.set_cons_succ, i64_w, i32_w]
            rfl
           refine pure_ (i := 10) (N := some 48) (v := ?_) (a' := ?_) #[true, true, false, true, true, true, true, true, true, false, true, false, false, false, false, false] rfl rfl (any_of HT_.out (by kernel_rfl)) (fun _ _ _ h => h) (Or.inl ⟨by rfl, ?_⟩) ?_ ?_
           rotate_left
           ·intro w'
            go_simp
            with_reducible rfl
           rotate_left
           ·simp only [Act.put, List.setIfInBounds_toArray, List.set_cons_zero, List.set_cons_succ, i64_w, i32_w]
            rfl
           refine pure_ (i := 11) (N := some 49) (v := ?_) (a' := ?_) #[true, true, false, true, true, true, true, true, true, false, true, true, false, false, false, false] rfl rfl (any_of HT_.out (by kernel_rfl)) (fun _ _ _ h => h) (Or.inl ⟨by rfl, ?_⟩) ?_ ?_
           rotate_left
           ·intro w'
            go_simp
            with_reducible rfl
           rotate_left
           ·simp only [Act.put, List.setIfInBounds_toArray, List.set_cons_zero, List.set_cons_succ, i64_w, i32_w]
            rfl
           refine take_ (i := 2) (N := some 40) (v := ?_) (a' := ?_) #[true, true, true, true, true, true, true, true, true, false, true, true, false, false, false, false] rfl rfl (take_ofW HT_.out HW_.out (by kernel_rfl)) (fun _ _ _ h => h) (Or.inl ⟨by rfl, ?_⟩) hHeld ?_ ?_
           rotate_left
           ·rintro w' ⟨s0, s1, s2⟩
            go_simp
            with_reducible rfl
           rotate_left
           ·simp only [Act.put, List.setIfInBounds_toArray, List.set_cons_zero, List.set_cons_succ, i64_w, i32_w]
            rfl
           refine take_ (i := 9) (N := some 47) (v := ?_) (a' := ?_) #[true, true, true, true, true, true, true, true, true, true, true, true, false, false, false, false] rfl rfl (take_ofW HT_.out HW_.out (by kernel_rfl)) (fun _ _ _ h => h) (Or.inl ⟨by rfl, ?_⟩) hHeld ?_ ?_
           rotate_left
           ·rintro w' ⟨s0, s1, s2⟩
            go_simp
            with_reducible rfl
           rotate_left
           ·simp only [Act.put, List.setIfInBounds_toArray, List.set_cons_zero, List.set_cons_succ, i64_w, i32_w]
            rfl
           refine take_ (i := 12) (N := some 50) (v := ?_) (a' := ?_) #[true, true, true, true, true, true, true, true, true, true, true, true, true, false, false, false] rfl rfl (take_ofW HT_.out HW_.out (by kernel_rfl)) (fun _ _ _ h => h) (Or.inl ⟨by rfl, ?_⟩) hHeld ?_ ?_
           rotate_left
           ·rintro w' ⟨s0, s1, s2⟩
            go_simp
            with_reducible rfl
           rotate_left
           ·simp only [Act.put, List.setIfInBounds_toArray, List.set_cons_zero, List.set_cons_succ, i64_w, i32_w]
            rfl
           refine pure_ (i := 13) (N := some 51) (v := ?_) (a' := ?_) #[true, true, true, true, true, true, true, true, true, true, true, true, true, true, false, false] rfl rfl (any_of HT_.out (by kernel_rfl)) (fun _ _ _ h => h) (Or.inl ⟨by rfl, ?_⟩) ?_ ?_
           rotate_left
           ·intro w'
            go_simp
            with_reducible rfl
           rotate_left
           ·simp only [Act.put, List.setIfInBounds_toArray, List.set_cons_zero, List.set_cons_succ, i64_w, i32_w]
            rfl
           refine one_ (i := 14) (N := some 10) #[true, true, true, true, true, true, true, true, true, true, true, true, true, true, true, false] rfl rfl (one_of HT_.out (by kernel_rfl)) (by decide) (fun K hK => ?_)
           refine box_step ?hg (N := 10) ?hd (cs := #[.string (⟨#[]⟩ : ByteArray), .int .u64 0, .int .i64 0, .string (⟨#[]⟩ : ByteArray), .string (⟨#[]⟩ : ByteArray)]) (t := 28) ?hr ?_; (case hd => rfl); (case hg => rfl); (case hr => first | (go_simp; done) | (go_simp; rfl))
           intro gb288 hg w55 hbox hb
           have HS0_ := (hb.cell (World.block_lt_of_cell? _ _ (hHeld.1))).trans (hHeld.1)
           have HS1_ := (hb.cell (World.block_lt_of_cell? _ _ (hHeld.2.1))).trans (hHeld.2.1)
           have HS2_ := (hb.cell (World.block_lt_of_cell? _ _ (hHeld.2.2))).trans (hHeld.2.2)
           have n0_ := Aside0.mk (Kd.R_below (by (with_reducible repeat (first | apply Kd.R_alloc | apply Kd.R_drewN | apply Kd.R_drew)); exact HO_4.out) hb)
           have n1_ := Aside0.mk (blk_below (g := gb274) (o := .cells #[.string (⟨#[]⟩ : ByteArray), .int .u64 0, .int .i64 0, .string (⟨#[]⟩ : ByteArray), .string (⟨#[]⟩ : ByteArray)] 28 (0, 0)) (by (with_reducible repeat (first | refine blk_drewN ?_ _ | refine blk_drew ?_ | refine blk_alloc ?_ _)); exact BK274.out) hb)
           have n2_ := Aside0.mk (below_step (by repeat (first | (with_reducible first | exact HB.out | apply below_alloc | apply pw_below_drewN | apply below_drew1 | refine below_set ?_ GE274.out) | exact HB.out)) hb)
           have n3_ := Aside0.mk (hbox)
           have n4_ := Aside0.mk ((by rw [hg]; exact (below_size (by repeat (first | (with_reducible first | exact HB.out | apply below_alloc | apply pw_below_drewN | apply below_drew1 | refine below_set ?_ GE274.out) | exact HB.out))) : w.heap.size ≤ gb288))
           have n5_ := Aside0.mk ((by rw [hg]; exact (below_size (by repeat (first | (with_reducible first | exact HB.out | apply below_alloc | apply pw_below_drewN | apply below_drew1 | refine below_set ?_ GE274.out) | exact HB.out))) : w.heap.size ≤ gb288))
           have n6_ := Aside0.mk ((by rw [hg]; exact Nat.ne_of_lt (blk_lt (g := gb274) (o := .cells #[.string (⟨#[]⟩ : ByteArray), .int .u64 0, .int .i64 0, .string (⟨#[]⟩ : ByteArray), .string (⟨#[]⟩ : ByteArray)] 28 (0, 0)) (by (with_reducible repeat (first | refine blk_drewN ?_ _ | refine blk_drew ?_ | refine blk_alloc ?_ _)); exact BK274.out)) : gb274 ≠ gb288))
           have n7_ := Aside0.mk ((by rw [hg]; exact Nat.ne_of_gt (blk_lt (g := gb274) (o := .cells #[.string (⟨#[]⟩ : ByteArray), .int .u64 0, .int .i64 0, .string (⟨#[]⟩ : ByteArray), .string (⟨#[]⟩ : ByteArray)] 28 (0, 0)) (by (with_reducible repeat (first | refine blk_drewN ?_ _ | refine blk_drew ?_ | refine blk_alloc ?_ _)); exact BK274.out)) : gb288 ≠ gb274))
           clear HO_4
           clear BK274
           clear HB
           have HO_4 := n0_
           have BK274 := n1_
           have HB := n2_
           have BK288 := n3_
           have GW288 := n4_
           have GE288 := n5_
           have NB274_288 := n6_
           have NB288_274 := n7_
           clear n0_ n1_ n2_ n3_ n4_ n5_ n6_ n7_
           clear hb hbox hg
           refine hK.out _ _ ⟨HS0_, HS1_, HS2_⟩ (fun hHeld => ?_)
           clear hK K
           refine norm_ (a' := ?_) ?_ ?_
           rotate_left
           ·show Act.put _ (some 10) _ = _
            simp only [Act.put, List.setIfInBounds_toArray, List.set_cons_zero, List.set_cons_succ, i64_w, i32_w]
            rfl
           refine one_ (i := 15) (N := none) #[true, true, true, true, true, true, true, true, true, true, true, true, true, true, true, true] rfl rfl (one_of HT_.out (by kernel_rfl)) (by decide) (fun K hK => ?_)
           have hs56 : w55.cell? ⟨gb288, 0, none⟩ = some (.string (⟨#[]⟩ : ByteArray)) := (blk_cell BK288.out 0).trans rfl
           have hfs56 := blk_frozen BK288.out 0
           have hns56_0 := NB274_288.out
           have hms56_0 := NB288_274.out
           have hs57 : w55.cell? ⟨gb288, 1, none⟩ = some (.int .u64 0) := (blk_cell BK288.out 1).trans rfl
           have hfs57 := blk_frozen BK288.out 1
           have hns57_0 := NB274_288.out
           have hms57_0 := NB288_274.out
           have hs58 : w55.cell? ⟨gb288, 2, none⟩ = some (.int .i64 0) := (blk_cell BK288.out 2).trans rfl
           have hfs58 := blk_frozen BK288.out 2
           have hns58_0 := NB274_288.out
           have hms58_0 := NB288_274.out
           have hs59 : w55.cell? ⟨gb288, 3, none⟩ = some (.string (⟨#[]⟩ : ByteArray)) := (blk_cell BK288.out 3).trans rfl
           have hfs59 := blk_frozen BK288.out 3
           have hns59_0 := NB274_288.out
           have hms59_0 := NB288_274.out
           have hs60 : w55.cell? ⟨gb288, 4, none⟩ = some (.string (⟨#[]⟩ : ByteArray)) := (blk_cell BK288.out 4).trans rfl
           have hfs60 := blk_frozen BK288.out 4
           have hns60_0 := NB274_288.out
           have hms60_0 := NB288_274.out
           refine skip_ (w1 := ?_) (by rfl) rfl ?_ ?_
           rotate_left
           ·refine' fresh_Take.store5 _ _ _ _ ?ho_ _ gb288 _ _ _ _ _ ?hp_ ?hv_ BK288.out
            case ho_ => rfl
            case hp_ => rfl
            case hv_ => rfl
           have hne_ : ad279.block ≠ gb288 := Kd.own_blk (Kd.R_ne HO_4.out BK288.out (by decide))
           refine hK.out _ _ ⟨(fresh_Take.far5 hne_ _ _ _ _ _).trans hHeld.1, (fresh_Take.far5 (a := ⟨ad279.block, _, none⟩) hne_ _ _ _ _ _).trans hHeld.2.1, (fresh_Take.far5 (a := ⟨ad279.block, _, none⟩) hne_ _ _ _ _ _).trans hHeld.2.2⟩ (fun hHeld => ?_)
           clear hne_
           clear hK K
           refine done_ (done_of HT_.out (by kernel_rfl)) ?_
           have q0_ : (((((w55.setCell ⟨gb288, 0, none⟩ (.string (rdOf ByteArray.empty t275 0))).setCell ⟨gb288, 1, none⟩ (.int .u64 t280)).setCell ⟨gb288, 2, none⟩ (.int .i64 (wrap64 (ji15)))).setCell ⟨gb288, 3, none⟩ (.string (rdOf ByteArray.empty t275 3))).setCell ⟨gb288, 4, none⟩ (.string (rdOf ByteArray.empty t275 4))).heap[gb288]? = some (.cells #[.string (rdOf ByteArray.empty t275 0), .int .u64 t280, .int .i64 (wrap64 (ji15)), .string (rdOf ByteArray.empty t275 3), .string (rdOf ByteArray.empty t275 4)] 28 (0, 0)) := (blk_put (blk_put (blk_put (blk_put (blk_put BK288.out 0 (.string (rdOf ByteArray.empty t275 0)) rfl) 1 (.int .u64 t280) rfl) 2 (.int .i64 (wrap64 (ji15))) rfl) 3 (.string (rdOf ByteArray.empty t275 3)) rfl) 4 (.string (rdOf ByteArray.empty t275 4)) rfl)
           have q1_ : (((((w55.setCell ⟨gb288, 0, none⟩ (.string (rdOf ByteArray.empty t275 0))).setCell ⟨gb288, 1, none⟩ (.int .u64 t280)).setCell ⟨gb288, 2, none⟩ (.int .i64 (wrap64 (ji15)))).setCell ⟨gb288, 3, none⟩ (.string (rdOf ByteArray.empty t275 3))).setCell ⟨gb288, 4, none⟩ (.string (rdOf ByteArray.empty t275 4))).heap[gb274]? = some (.cells #[.string (⟨#[]⟩ : ByteArray), .int .u64 0, .int .i64 0, .string (⟨#[]⟩ : ByteArray), .string (⟨#[]⟩ : ByteArray)] 28 (0, 0)) := (blk_far (blk_far (blk_far (blk_far (blk_far BK274.out NB274_288.out (.string (rdOf ByteArray.empty t275 0))) NB274_288.out (.int .u64 t280)) NB274_288.out (.int .i64 (wrap64 (ji15)))) NB274_288.out (.string (rdOf ByteArray.empty t275 3))) NB274_288.out (.string (rdOf ByteArray.empty t275 4)))
           have q2_ : Below w.heap.size w (((((w55.setCell ⟨gb288, 0, none⟩ (.string (rdOf ByteArray.empty t275 0))).setCell ⟨gb288, 1, none⟩ (.int .u64 t280)).setCell ⟨gb288, 2, none⟩ (.int .i64 (wrap64 (ji15)))).setCell ⟨gb288, 3, none⟩ (.string (rdOf ByteArray.empty t275 3))).setCell ⟨gb288, 4, none⟩ (.string (rdOf ByteArray.empty t275 4))) := (below_set (below_set (below_set (below_set (below_set HB.out GE288.out) GE288.out) GE288.out) GE288.out) GE288.out)
           have q3_ := Kd.R_mono (Kd.R_far (p := ⟨gb288, 4, none⟩) (Kd.R_far (p := ⟨gb288, 3, none⟩) (Kd.R_far (p := ⟨gb288, 2, none⟩) (Kd.R_far (p := ⟨gb288, 1, none⟩) (Kd.R_far (p := ⟨gb288, 0, none⟩) (Kd.R_types HO_4.out BK288.out (by decide)) (fun _ hk => hk.2) (.string (rdOf ByteArray.empty t275 0))) (fun _ hk => hk.2) (.int .u64 t280)) (fun _ hk => hk.2) (.int .i64 (wrap64 (ji15)))) (fun _ hk => hk.2) (.string (rdOf ByteArray.empty t275 3))) (fun _ hk => hk.2) (.string (rdOf ByteArray.empty t275 4))) (fun _ h_ => h_.1)
           clear HO_4 BK288 BK274 HB hHeld
           have HO_4 := Aside0.mk q3_
           have BK274 := Aside0.mk q1_
           have BK288 := Aside0.mk q0_
           have HB := Aside0.mk q2_
           clear q0_ q1_ q2_ q3_
           (try clear HS0_)
           (try clear HS1_)
           (try clear HS2_)
           generalize (((((w55.setCell ⟨gb288, 0, none⟩ (.string (rdOf ByteArray.empty t275 0))).setCell ⟨gb288, 1, none⟩ (.int .u64 t280)).setCell ⟨gb288, 2, none⟩ (.int .i64 (wrap64 (ji15)))).setCell ⟨gb288, 3, none⟩ (.string (rdOf ByteArray.empty t275 3))).setCell ⟨gb288, 4, none⟩ (.string (rdOf ByteArray.empty t275 4))) = w55 at HO_4 BK274 BK288 HB ⊢
           have hnb61 := NB274_288.out
           have hnc61 := NB288_274.out
           have hcz62_0 : w55.cell? ⟨gb274, 0, none⟩ = some (.string (⟨#[]⟩ : ByteArray)) := (blk_cell BK274.out 0).trans rfl
           have hcz62_1 : w55.cell? ⟨gb274, 1, none⟩ = some (.int .u64 0) := (blk_cell BK274.out 1).trans rfl
           have hcz62_2 : w55.cell? ⟨gb274, 2, none⟩ = some (.int .i64 0) := (blk_cell BK274.out 2).trans rfl
           have hcz62_3 : w55.cell? ⟨gb274, 3, none⟩ = some (.string (⟨#[]⟩ : ByteArray)) := (blk_cell BK274.out 3).trans rfl
           have hcz62_4 : w55.cell? ⟨gb274, 4, none⟩ = some (.string (⟨#[]⟩ : ByteArray)) := (blk_cell BK274.out 4).trans rfl
           have hfz62_0 := blk_frozen BK274.out 0
           have hfz62_1 := blk_frozen BK274.out 1
           have hfz62_2 := blk_frozen BK274.out 2
           have hfz62_3 := blk_frozen BK274.out 3
           have hfz62_4 := blk_frozen BK274.out 4
           try go_wp2
           refine bodyPost_ret (results_ct rfl _ _ gb274 28 #[.string (⟨#[]⟩ : ByteArray), .int .u64 0, .int .i64 0, .string (⟨#[]⟩ : ByteArray), .string (⟨#[]⟩ : ByteArray)] (0, 0) _ rfl (by (with_reducible repeat (first | refine blk_drewN ?_ _ | refine blk_drew ?_ | refine blk_alloc ?_ _)); refine blk_put (cs := #[.string (⟨#[]⟩ : ByteArray), .int .u64 0, .int .i64 0, .string (⟨#[]⟩ : ByteArray), .string (⟨#[]⟩ : ByteArray)]) ?_ 4 _ rfl; (with_reducible repeat (first | refine blk_drewN ?_ _ | refine blk_drew ?_ | refine blk_alloc ?_ _)); refine blk_put (cs := #[.string (⟨#[]⟩ : ByteArray), .int .u64 0, .int .i64 0, .string (⟨#[]⟩ : ByteArray), .string (⟨#[]⟩ : ByteArray)]) ?_ 3 _ rfl; (with_reducible repeat (first | refine blk_drewN ?_ _ | refine blk_drew ?_ | refine blk_alloc ?_ _)); refine blk_put (cs := #[.string (⟨#[]⟩ : ByteArray), .int .u64 0, .int .i64 0, .string (⟨#[]⟩ : ByteArray), .string (⟨#[]⟩ : ByteArray)]) ?_ 2 _ rfl; (with_reducible repeat (first | refine blk_drewN ?_ _ | refine blk_drew ?_ | refine blk_alloc ?_ _)); refine blk_put (cs := #[.string (⟨#[]⟩ : ByteArray), .int .u64 0, .int .i64 0, .string (⟨#[]⟩ : ByteArray), .string (⟨#[]⟩ : ByteArray)]) ?_ 1 _ rfl; (with_reducible repeat (first | refine blk_drewN ?_ _ | refine blk_drew ?_ | refine blk_alloc ?_ _)); refine blk_put (cs := #[.string (⟨#[]⟩ : ByteArray), .int .u64 0, .int .i64 0, .string (⟨#[]⟩ : ByteArray), .string (⟨#[]⟩ : ByteArray)]) ?_ 0 _ rfl; (with_reducible repeat (first | refine blk_drewN ?_ _ | refine blk_drew ?_ | refine blk_alloc ?_ _)); exact BK274.out) Tryd.underlying28 rfl (by kernel_rfl)) rfl ?_
           exact ⟨by first | rfl | (simp [errW_none, errW_some] <;> rfl) | (simp only [← hji15]; first | rfl | (simp [errW_none, errW_some] <;> rfl)) | (simp [*, errW_none, errW_some] <;> rfl), by repeat (first | (with_reducible first | exact HB.out | apply below_alloc | apply pw_below_drewN | apply below_drew1 | refine below_set ?_ GE274.out | refine below_set ?_ GE288.out) | exact HB.out)⟩
         ·replace c18 := Bool.eq_false_iff.mpr c18
          subst c18
          have H1 : (some ((⟨#[]⟩ : ByteArray), 0, 0, (⟨#[]⟩ : ByteArray), (⟨#[]⟩ : ByteArray), 2)) = some (r1, r2, r3, r4, r5, r6) := by rw [if_neg (show ¬ (false = true) by decide)] at H; exact H
          clear H
          have H := H1
          clear H1
          simp only [Option.some.injEq, Prod.mk.injEq] at H
          obtain ⟨rfl, rfl, rfl, rfl, rfl, rfl⟩ := H
          obtain ⟨Ao63, co63, eo63⟩ := Kd.R_slice HO_4.out
          subst eo63
          have p279 : 0 ≤ (1 : Int) := (by omega)
          have q279 : 1 < (t275.length : Int) := of_decide_eq_true (by first | (with_reducible assumption) | assumption)
          obtain ⟨ad279, e279, hx279_0⟩ := Kd.at_string (Kd.R_reads' HO_4.out).2.2 1 p279 q279
          cases e279
          (try simp only [show (1 : Int).toNat = 1 from rfl, Nat.reduceMul, Nat.reduceEqDiff, Go.Addr.add, ↓reduceIte] at hx279_0)
          have qi279 : (1 < t275.length) = True := eq_true (by omega)
          (try rw [show ((1 : Int)).toNat = 1 from rfl] at hx279_0)
          replace p279 := eq_true p279
          replace q279 := eq_true q279
          try go_wp2_with (first | ((with_reducible refine gate_callee (f := 41) rfl ?_); refine goesL_ (some 28) rfl rfl Tryd.func41 (by kernel_rfl) rfl #[.string (rdOf ByteArray.empty t275 1)] rfl (by (try simp only [List.map_toArray, List.map_cons, List.map_nil]); first | done | rfl | (simp only [List.length_drop, List.length_take]; rfl)) ?_; (with_reducible refine (fresh_number.calls (rdOf ByteArray.empty t275 1) t280 false _ A11.out).mono ?_); rintro e w64 ⟨rfl, hb⟩; refine ⟨_, rfl, ?_⟩; have n0_ := Aside0.mk (Kd.R_below (by (with_reducible repeat (first | apply Kd.R_alloc | apply Kd.R_drewN | apply Kd.R_drew)); exact HO_4.out) hb); have n1_ := Aside0.mk (blk_below (g := gb274) (o := .cells #[.string (⟨#[]⟩ : ByteArray), .int .u64 0, .int .i64 0, .string (⟨#[]⟩ : ByteArray), .string (⟨#[]⟩ : ByteArray)] 28 (0, 0)) (by (with_reducible repeat (first | refine blk_drewN ?_ _ | refine blk_drew ?_ | refine blk_alloc ?_ _)); exact BK274.out) hb); have n2_ := Aside0.mk (below_step (by repeat (first | (with_reducible first | exact HB.out | apply below_alloc | apply pw_below_drewN | apply below_drew1 | refine below_set ?_ GE274.out) | exact HB.out)) hb); clear HO_4; clear BK274; clear HB; have HO_4 := n0_; have BK274 := n1_; have HB := n2_; clear n0_ n1_ n2_; (try clear hb); (try clear hb2); (try clear hk); (try clear hi); have p282 : 0 ≤ (2 : Int) := (by omega); have q282 : 2 < (t275.length : Int) := of_decide_eq_true (by first | (with_reducible assumption) | assumption); obtain ⟨ad282, e282, hx282_0⟩ := Kd.at_string (Kd.R_reads' HO_4.out).2.2 2 p282 q282; obtain rfl : ad279 = ad282 := (by injection e282); (try simp only [show (2 : Int).toNat = 2 from rfl, Nat.reduceMul, Nat.reduceEqDiff, Go.Addr.add, ↓reduceIte] at hx282_0); have qi282 : (2 < t275.length) = True := eq_true (by omega); (try rw [show ((2 : Int)).toNat = 2 from rfl] at hx282_0); replace p282 := eq_true p282; replace q282 := eq_true q282) | ((with_reducible refine gate_callee (f := 41) rfl ?_); refine goesL_ (some 35) rfl rfl Tryd.func41 (by kernel_rfl) rfl #[.string (rdOf ByteArray.empty t275 2)] rfl (by (try simp only [List.map_toArray, List.map_cons, List.map_nil]); first | done | rfl | (simp only [List.length_drop, List.length_take]; rfl)) ?_; (with_reducible refine (fresh_number.calls (rdOf ByteArray.empty t275 2) t283 t284 _ A13.out).mono ?_); rintro e w65 ⟨rfl, hb⟩; refine ⟨_, rfl, ?_⟩; have n0_ := Aside0.mk (Kd.R_below (by (with_reducible repeat (first | apply Kd.R_alloc | apply Kd.R_drewN | apply Kd.R_drew)); exact HO_4.out) hb); have n1_ := Aside0.mk (blk_below (g := gb274) (o := .cells #[.string (⟨#[]⟩ : ByteArray), .int .u64 0, .int .i64 0, .string (⟨#[]⟩ : ByteArray), .string (⟨#[]⟩ : ByteArray)] 28 (0, 0)) (by (with_reducible repeat (first | refine blk_drewN ?_ _ | refine blk_drew ?_ | refine blk_alloc ?_ _)); exact BK274.out) hb); have n2_ := Aside0.mk (below_step (by repeat (first | (with_reducible first | exact HB.out | apply below_alloc | apply pw_below_drewN | apply below_drew1 | refine below_set ?_ GE274.out) | exact HB.out)) hb); clear HO_4; clear BK274; clear HB; have HO_4 := n0_; have BK274 := n1_; have HB := n2_; clear n0_ n1_ n2_; (try clear hb); (try clear hb2); (try clear hk); (try clear hi)))
          have n0_ := Aside0.mk (Kd.R_drew HO_4.out)
          have n1_ := Aside0.mk (blk_drew BK274.out)
          have n2_ := Aside0.mk (below_drew1 HB.out)
          clear HO_4
          clear BK274
          clear HB
          have HO_4 := n0_
          have BK274 := n1_
          have HB := n2_
          clear n0_ n1_ n2_
          have p285 : 0 ≤ (0 : Int) := (by omega)
          have q285 : 0 < (t275.length : Int) := of_decide_eq_true (by first | (with_reducible assumption) | assumption)
          obtain ⟨ad285, e285, hx285_0⟩ := Kd.at_string (Kd.R_reads' HO_4.out).2.2 0 p285 q285
          obtain rfl : ad279 = ad285 := (by injection e285)
          have qi285 : (0 < t275.length) = True := eq_true (by omega)
          (try rw [show ((0 : Int)).toNat = 0 from rfl] at hx285_0)
          (try rw [Addr.add_zero'] at hx285_0)
          replace p285 := eq_true p285
          replace q285 := eq_true q285
          have p286 : 0 ≤ (3 : Int) := (by omega)
          have q286 : 3 < (t275.length : Int) := of_decide_eq_true (by first | (with_reducible assumption) | assumption)
          obtain ⟨ad286, e286, hx286_0⟩ := Kd.at_string (Kd.R_reads' HO_4.out).2.2 3 p286 q286
          obtain rfl : ad279 = ad286 := (by injection e286)
          (try simp only [show (3 : Int).toNat = 3 from rfl, Nat.reduceMul, Nat.reduceEqDiff, Go.Addr.add, ↓reduceIte] at hx286_0)
          have qi286 : (3 < t275.length) = True := eq_true (by omega)
          (try rw [show ((3 : Int)).toNat = 3 from rfl] at hx286_0)
          replace p286 := eq_true p286
          replace q286 := eq_true q286
          have p287 : 0 ≤ (4 : Int) := (by omega)
          have q287 : 4 < (t275.length : Int) := of_decide_eq_true (by first | (with_reducible assumption) | assumption)
          obtain ⟨ad287, e287, hx287_0⟩ := Kd.at_string (Kd.R_reads' HO_4.out).2.2 4 p287 q287
          obtain rfl : ad279 = ad287 := (by injection e287)
          (try simp only [show (4 : Int).toNat = 4 from rfl, Nat.reduceMul, Nat.reduceEqDiff, Go.Addr.add, ↓reduceIte] at hx287_0)
          have qi287 : (4 < t275.length) = True := eq_true (by omega)
          (try rw [show ((4 : Int)).toNat = 4 from rfl] at hx287_0)
          replace p287 := eq_true p287
          replace q287 := eq_true q287
          refine start_ (n := 16) (S := fun w' => w'.cell? ad279 = some (.string (rdOf ByteArray.empty t275 0)) ∧ w'.cell? ⟨ad279.block, ad279.off + 3, none⟩ = some (.string (rdOf ByteArray.empty t275 3)) ∧ w'.cell? ⟨ad279.block, ad279.off + 4, none⟩ = some (.string (rdOf ByteArray.empty t275 4))) (ds := []) #[false, false, false, false, false, false, false, false, false, false, false, false, false, false, false, false] (by kernel_rfl) rfl rfl ⟨hx285_0, hx286_0, hx287_0⟩ (fun hHeld => ?_); refine with_tabW fresh_Take.tab6 fresh_Take.bits6 (fun HT_ HW_ => ?_)
          generalize w65.drew = w66 at HO_4 BK274 HB hx285_0 hx286_0 hx287_0 hHeld ⊢
          refine pure_ (i := 0) (N := some 38) (v := ?_) (a' := ?_) #[true, false, false, false, false, false, false, false, false, false, false, false, false, false, false, false] rfl rfl (any_of HT_.out (by kernel_rfl)) (fun _ _ _ h => h) (Or.inl ⟨by rfl, ?_⟩) ?_ ?_
          rotate_left
          ·intro w'
           go_simp
           with_reducible rfl
          rotate_left
          ·simp only [Act.put, List.setIfInBounds_toArray, List.set_cons_zero, List.set_cons_succ, i64_w, i32_w]
           rfl
          refine pure_ (i := 1) (N := some 39) (v := ?_) (a' := ?_) #[true, true, false, false, false, false, false, false, false, false, false, false, false, false, false, false] rfl rfl (any_of HT_.out (by kernel_rfl)) (fun _ _ _ h => h) (Or.inl ⟨by rfl, ?_⟩) ?_ ?_
          rotate_left
          ·intro w'
           go_simp
           with_reducible rfl
          rotate_left
          ·simp only [Act.put, List.setIfInBounds_toArray, List.set_cons_zero, List.set_cons_succ, i64_w, i32_w]
           rfl
          refine pure_ (i := 3) (N := some 41) (v := ?_) (a' := ?_) #[true, true, false, true, false, false, false, false, false, false, false, false, false, false, false, false] rfl rfl (any_of HT_.out (by kernel_rfl)) (fun _ _ _ h => h) (Or.inl ⟨by rfl, ?_⟩) ?_ ?_
          rotate_left
          ·intro w'
           go_simp
           with_reducible rfl
          rotate_left
          ·simp only [Act.put, List.setIfInBounds_toArray, List.set_cons_zero, List.set_cons_succ, i64_w, i32_w]
           rfl
          refine pure_ (i := 4) (N := some 42) (v := ?_) (a' := ?_) #[true, true, false, true, true, false, false, false, false, false, false, false, false, false, false, false] rfl rfl (any_of HT_.out (by kernel_rfl)) (fun _ _ _ h => h) (Or.inl ⟨by rfl, ?_⟩) ?_ ?_
          rotate_left
          ·intro w'
           go_simp
           with_reducible rfl
          rotate_left
          ·simp only [Act.put, List.setIfInBounds_toArray, List.set_cons_zero, List.set_cons_succ, i64_w, i32_w]
           rfl
          refine pure_ (i := 5) (N := some 43) (v := ?_) (a' := ?_) #[true, true, false, true, true, true, false, false, false, false, false, false, false, false, false, false] rfl rfl (any_of HT_.out (by kernel_rfl)) (fun _ _ _ h => h) (Or.inl ⟨by rfl, ?_⟩) ?_ ?_
          rotate_left
          ·intro w'
           go_simp
           with_reducible rfl
          rotate_left
          ·simp only [Act.put, List.setIfInBounds_toArray, List.set_cons_zero, List.set_cons_succ, i64_w, i32_w]
           rfl
          refine pure_ (i := 6) (N := some 44) (v := ?_) (a' := ?_) #[true, true, false, true, true, true, true, false, false, false, false, false, false, false, false, false] rfl rfl (any_of HT_.out (by kernel_rfl)) (fun _ _ _ h => h) (Or.inl ⟨by rfl, ?_⟩) ?_ ?_
          rotate_left
          ·intro w'
           go_simp
           with_reducible rfl
          rotate_left
          ·simp only [Act.put, List.setIfInBounds_toArray, List.set_cons_zero, List.set_cons_succ, i64_w, i32_w]
           rfl
          refine pure_ (i := 7) (N := some 45) (v := ?_) (a' := ?_) #[true, true, false, true, true, true, true, true, false, false, false, false, false, false, false, false] rfl rfl (any_of HT_.out (by kernel_rfl)) (fun _ _ _ h => h) (Or.inl ⟨by rfl, ?_⟩) ?_ ?_
          rotate_left
          ·intro w'
           go_simp
           with_reducible rfl
          rotate_left
          ·simp only [Act.put, List.setIfInBounds_toArray, List.set_cons_zero, List.set_cons_succ, i64_w, i32_w]
           rfl
          refine pure_ (i := 8) (N := some 46) (v := ?_) (a' := ?_) #[true, true, false, true, true, true, true, true, true, false, false, false, false, false, false, false] rfl rfl (any_of HT_.out (by kernel_rfl)) (fun _ _ _ h => h) (Or.inl ⟨by rfl, ?_⟩) ?_ ?_
          rotate_left
          ·intro w'
           go_simp
           with_reducible rfl
          rotate_left
          ·simp only [Act.put, List.setIfInBounds_toArray, List.set_cons_zero, List.set_cons_succ, i64_w, i32_w]
           rfl
          refine pure_ (i := 10) (N := some 48) (v := ?_) (a' := ?_) #[true, true, false, true, true, true, true, true, true, false, true, false, false, false, false, false] rfl rfl (any_of HT_.out (by kernel_rfl)) (fun _ _ _ h => h) (Or.inl ⟨by rfl, ?_⟩) ?_ ?_
          rotate_left
          ·intro w'
           go_simp
           with_reducible rfl
          rotate_left
          ·simp only [Act.put, List.setIfInBounds_toArray, List.set_cons_zero, List.set_cons_succ, i64_w, i32_w]
           rfl
          refine pure_ (i := 11) (N := some 49) (v := ?_) (a' := ?_) #[true, true, false, true, true, true, true, true, true, false, true, true, false, false, false, false] rfl rfl (any_of HT_.out (by kernel_rfl)) (fun _ _ _ h => h) (Or.inl ⟨by rfl, ?_⟩) ?_ ?_
          rotate_left
          ·intro w'
           go_simp
           with_reducible rfl
          rotate_left
          ·simp only [Act.put, List.setIfInBounds_toArray, List.set_cons_zero, List.set_cons_succ, i64_w, i32_w]
           rfl
          refine take_ (i := 2) (N := some 40) (v := ?_) (a' := ?_) #[true, true, true, true, true, true, true, true, true, false, true, true, false, false, false, false] rfl rfl (take_ofW HT_.out HW_.out (by kernel_rfl)) (fun _ _ _ h => h) (Or.inl ⟨by rfl, ?_⟩) hHeld ?_ ?_
          rotate_left
          ·rintro w' ⟨s0, s1, s2⟩
           go_simp
           with_reducible rfl
          rotate_left
          ·simp only [Act.put, List.setIfInBounds_toArray, List.set_cons_zero, List.set_cons_succ, i64_w, i32_w]
           rfl
          refine take_ (i := 9) (N := some 47) (v := ?_) (a' := ?_) #[true, true, true, true, true, true, true, true, true, true, true, true, false, false, false, false] rfl rfl (take_ofW HT_.out HW_.out (by kernel_rfl)) (fun _ _ _ h => h) (Or.inl ⟨by rfl, ?_⟩) hHeld ?_ ?_
          rotate_left
          ·rintro w' ⟨s0, s1, s2⟩
           go_simp
           with_reducible rfl
          rotate_left
          ·simp only [Act.put, List.setIfInBounds_toArray, List.set_cons_zero, List.set_cons_succ, i64_w, i32_w]
           rfl
          refine take_ (i := 12) (N := some 50) (v := ?_) (a' := ?_) #[true, true, true, true, true, true, true, true, true, true, true, true, true, false, false, false] rfl rfl (take_ofW HT_.out HW_.out (by kernel_rfl)) (fun _ _ _ h => h) (Or.inl ⟨by rfl, ?_⟩) hHeld ?_ ?_
          rotate_left
          ·rintro w' ⟨s0, s1, s2⟩
           go_simp
           with_reducible rfl
          rotate_left
          ·simp only [Act.put, List.setIfInBounds_toArray, List.set_cons_zero, List.set_cons_succ, i64_w, i32_w]
           rfl
          refine pure_ (i := 13) (N := some 51) (v := ?_) (a' := ?_) #[true, true, true, true, true, true, true, true, true, true, true, true, true, true, false, false] rfl rfl (any_of HT_.out (by kernel_rfl)) (fun _ _ _ h => h) (Or.inl ⟨by rfl, ?_⟩) ?_ ?_
          rotate_left
          ·intro w'
           go_simp
           with_reducible rfl
          rotate_left
          ·simp only [Act.put, List.setIfInBounds_toArray, List.set_cons_zero, List.set_cons_succ, i64_w, i32_w]
           rfl
          refine one_ (i := 14) (N := some 10) #[true, true, true, true, true, true, true, true, true, true, true, true, true, true, true, false] rfl rfl (one_of HT_.out (by kernel_rfl)) (by decide) (fun K hK => ?_)
          refine box_step ?hg (N := 10) ?hd (cs := #[.string (⟨#[]⟩ : ByteArray), .int .u64 0, .int .i64 0, .string (⟨#[]⟩ : ByteArray), .string (⟨#[]⟩ : ByteArray)]) (t := 28) ?hr ?_; (case hd => rfl); (case hg => rfl); (case hr => first | (go_simp; done) | (go_simp; rfl))
          intro gb288 hg w67 hbox hb
          have HS0_ := (hb.cell (World.block_lt_of_cell? _ _ (hHeld.1))).trans (hHeld.1)
          have HS1_ := (hb.cell (World.block_lt_of_cell? _ _ (hHeld.2.1))).trans (hHeld.2.1)
          have HS2_ := (hb.cell (World.block_lt_of_cell? _ _ (hHeld.2.2))).trans (hHeld.2.2)
          have n0_ := Aside0.mk (Kd.R_below (by (with_reducible repeat (first | apply Kd.R_alloc | apply Kd.R_drewN | apply Kd.R_drew)); exact HO_4.out) hb)
          have n1_ := Aside0.mk (blk_below (g := gb274) (o := .cells #[.string (⟨#[]⟩ : ByteArray), .int .u64 0, .int .i64 0, .string (⟨#[]⟩ : ByteArray), .string (⟨#[]⟩ : ByteArray)] 28 (0, 0)) (by (with_reducible repeat (first | refine blk_drewN ?_ _ | refine blk_drew ?_ | refine blk_alloc ?_ _)); exact BK274.out) hb)
          have n2_ := Aside0.mk (below_step (by repeat (first | (with_reducible first | exact HB.out | apply below_alloc | apply pw_below_drewN | apply below_drew1 | refine below_set ?_ GE274.out) | exact HB.out)) hb)
          have n3_ := Aside0.mk (hbox)
          have n4_ := Aside0.mk ((by rw [hg]; exact (below_size (by repeat (first | (with_reducible first | exact HB.out | apply below_alloc | apply pw_below_drewN | apply below_drew1 | refine below_set ?_ GE274.out) | exact HB.out))) : w.heap.size ≤ gb288))
          have n5_ := Aside0.mk ((by rw [hg]; exact (below_size (by repeat (first | (with_reducible first | exact HB.out | apply below_alloc | apply pw_below_drewN | apply below_drew1 | refine below_set ?_ GE274.out) | exact HB.out))) : w.heap.size ≤ gb288))
          have n6_ := Aside0.mk ((by rw [hg]; exact Nat.ne_of_lt (blk_lt (g := gb274) (o := .cells #[.string (⟨#[]⟩ : ByteArray), .int .u64 0, .int .i64 0, .string (⟨#[]⟩ : ByteArray), .string (⟨#[]⟩ : ByteArray)] 28 (0, 0)) (by (with_reducible repeat (first | refine blk_drewN ?_ _ | refine blk_drew ?_ | refine blk_alloc ?_ _)); exact BK274.out)) : gb274 ≠ gb288))
          have n7_ := Aside0.mk ((by rw [hg]; exact Nat.ne_of_gt (blk_lt (g := gb274) (o := .cells #[.string (⟨#[]⟩ : ByteArray), .int .u64 0, .int .i64 0, .string (⟨#[]⟩ : ByteArray), .string (⟨#[]⟩ : ByteArray)] 28 (0, 0)) (by (with_reducible repeat (first | refine blk_drewN ?_ _ | refine blk_drew ?_ | refine blk_alloc ?_ _)); exact BK274.out)) : gb288 ≠ gb274))
          clear HO_4
          clear BK274
          clear HB
          have HO_4 := n0_
          have BK274 := n1_
          have HB := n2_
          have BK288 := n3_
          have GW288 := n4_
          have GE288 := n5_
          have NB274_288 := n6_
          have NB288_274 := n7_
          clear n0_ n1_ n2_ n3_ n4_ n5_ n6_ n7_
          clear hb hbox hg
          refine hK.out _ _ ⟨HS0_, HS1_, HS2_⟩ (fun hHeld => ?_)
          clear hK K
          refine norm_ (a' := ?_) ?_ ?_
          rotate_left
          ·show Act.put _ (some 10) _ = _
           simp only [Act.put, List.setIfInBounds_toArray, List.set_cons_zero, List.set_cons_succ, i64_w, i32_w]
           rfl
          refine one_ (i := 15) (N := none) #[true, true, true, true, true, true, true, true, true, true, true, true, true, true, true, true] rfl rfl (one_of HT_.out (by kernel_rfl)) (by decide) (fun K hK => ?_)
          have hs68 : w67.cell? ⟨gb288, 0, none⟩ = some (.string (⟨#[]⟩ : ByteArray)) := (blk_cell BK288.out 0).trans rfl
          have hfs68 := blk_frozen BK288.out 0
          have hns68_0 := NB274_288.out
          have hms68_0 := NB288_274.out
          have hs69 : w67.cell? ⟨gb288, 1, none⟩ = some (.int .u64 0) := (blk_cell BK288.out 1).trans rfl
          have hfs69 := blk_frozen BK288.out 1
          have hns69_0 := NB274_288.out
          have hms69_0 := NB288_274.out
          have hs70 : w67.cell? ⟨gb288, 2, none⟩ = some (.int .i64 0) := (blk_cell BK288.out 2).trans rfl
          have hfs70 := blk_frozen BK288.out 2
          have hns70_0 := NB274_288.out
          have hms70_0 := NB288_274.out
          have hs71 : w67.cell? ⟨gb288, 3, none⟩ = some (.string (⟨#[]⟩ : ByteArray)) := (blk_cell BK288.out 3).trans rfl
          have hfs71 := blk_frozen BK288.out 3
          have hns71_0 := NB274_288.out
          have hms71_0 := NB288_274.out
          have hs72 : w67.cell? ⟨gb288, 4, none⟩ = some (.string (⟨#[]⟩ : ByteArray)) := (blk_cell BK288.out 4).trans rfl
          have hfs72 := blk_frozen BK288.out 4
          have hns72_0 := NB274_288.out
          have hms72_0 := NB288_274.out
          refine skip_ (w1 := ?_) (by rfl) rfl ?_ ?_
          rotate_left
          ·refine' fresh_Take.store5 _ _ _ _ ?ho_ _ gb288 _ _ _ _ _ ?hp_ ?hv_ BK288.out
           case ho_ => rfl
           case hp_ => rfl
           case hv_ => rfl
          have hne_ : ad279.block ≠ gb288 := Kd.own_blk (Kd.R_ne HO_4.out BK288.out (by decide))
          refine hK.out _ _ ⟨(fresh_Take.far5 hne_ _ _ _ _ _).trans hHeld.1, (fresh_Take.far5 (a := ⟨ad279.block, _, none⟩) hne_ _ _ _ _ _).trans hHeld.2.1, (fresh_Take.far5 (a := ⟨ad279.block, _, none⟩) hne_ _ _ _ _ _).trans hHeld.2.2⟩ (fun hHeld => ?_)
          clear hne_
          clear hK K
          refine done_ (done_of HT_.out (by kernel_rfl)) ?_
          have q0_ : (((((w67.setCell ⟨gb288, 0, none⟩ (.string (rdOf ByteArray.empty t275 0))).setCell ⟨gb288, 1, none⟩ (.int .u64 t280)).setCell ⟨gb288, 2, none⟩ (.int .i64 (wrap64 (ji15)))).setCell ⟨gb288, 3, none⟩ (.string (rdOf ByteArray.empty t275 3))).setCell ⟨gb288, 4, none⟩ (.string (rdOf ByteArray.empty t275 4))).heap[gb288]? = some (.cells #[.string (rdOf ByteArray.empty t275 0), .int .u64 t280, .int .i64 (wrap64 (ji15)), .string (rdOf ByteArray.empty t275 3), .string (rdOf ByteArray.empty t275 4)] 28 (0, 0)) := (blk_put (blk_put (blk_put (blk_put (blk_put BK288.out 0 (.string (rdOf ByteArray.empty t275 0)) rfl) 1 (.int .u64 t280) rfl) 2 (.int .i64 (wrap64 (ji15))) rfl) 3 (.string (rdOf ByteArray.empty t275 3)) rfl) 4 (.string (rdOf ByteArray.empty t275 4)) rfl)
          have q1_ : (((((w67.setCell ⟨gb288, 0, none⟩ (.string (rdOf ByteArray.empty t275 0))).setCell ⟨gb288, 1, none⟩ (.int .u64 t280)).setCell ⟨gb288, 2, none⟩ (.int .i64 (wrap64 (ji15)))).setCell ⟨gb288, 3, none⟩ (.string (rdOf ByteArray.empty t275 3))).setCell ⟨gb288, 4, none⟩ (.string (rdOf ByteArray.empty t275 4))).heap[gb274]? = some (.cells #[.string (⟨#[]⟩ : ByteArray), .int .u64 0, .int .i64 0, .string (⟨#[]⟩ : ByteArray), .string (⟨#[]⟩ : ByteArray)] 28 (0, 0)) := (blk_far (blk_far (blk_far (blk_far (blk_far BK274.out NB274_288.out (.string (rdOf ByteArray.empty t275 0))) NB274_288.out (.int .u64 t280)) NB274_288.out (.int .i64 (wrap64 (ji15)))) NB274_288.out (.string (rdOf ByteArray.empty t275 3))) NB274_288.out (.string (rdOf ByteArray.empty t275 4)))
          have q2_ : Below w.heap.size w (((((w67.setCell ⟨gb288, 0, none⟩ (.string (rdOf ByteArray.empty t275 0))).setCell ⟨gb288, 1, none⟩ (.int .u64 t280)).setCell ⟨gb288, 2, none⟩ (.int .i64 (wrap64 (ji15)))).setCell ⟨gb288, 3, none⟩ (.string (rdOf ByteArray.empty t275 3))).setCell ⟨gb288, 4, none⟩ (.string (rdOf ByteArray.empty t275 4))) := (below_set (below_set (below_set (below_set (below_set HB.out GE288.out) GE288.out) GE288.out) GE288.out) GE288.out)
          have q3_ := Kd.R_mono (Kd.R_far (p := ⟨gb288, 4, none⟩) (Kd.R_far (p := ⟨gb288, 3, none⟩) (Kd.R_far (p := ⟨gb288, 2, none⟩) (Kd.R_far (p := ⟨gb288, 1, none⟩) (Kd.R_far (p := ⟨gb288, 0, none⟩) (Kd.R_types HO_4.out BK288.out (by decide)) (fun _ hk => hk.2) (.string (rdOf ByteArray.empty t275 0))) (fun _ hk => hk.2) (.int .u64 t280)) (fun _ hk => hk.2) (.int .i64 (wrap64 (ji15)))) (fun _ hk => hk.2) (.string (rdOf ByteArray.empty t275 3))) (fun _ hk => hk.2) (.string (rdOf ByteArray.empty t275 4))) (fun _ h_ => h_.1)
          clear HO_4 BK288 BK274 HB hHeld
          have HO_4 := Aside0.mk q3_
          have BK274 := Aside0.mk q1_
          have BK288 := Aside0.mk q0_
          have HB := Aside0.mk q2_
          clear q0_ q1_ q2_ q3_
          (try clear HS0_)
          (try clear HS1_)
          (try clear HS2_)
          generalize (((((w67.setCell ⟨gb288, 0, none⟩ (.string (rdOf ByteArray.empty t275 0))).setCell ⟨gb288, 1, none⟩ (.int .u64 t280)).setCell ⟨gb288, 2, none⟩ (.int .i64 (wrap64 (ji15)))).setCell ⟨gb288, 3, none⟩ (.string (rdOf ByteArray.empty t275 3))).setCell ⟨gb288, 4, none⟩ (.string (rdOf ByteArray.empty t275 4))) = w67 at HO_4 BK274 BK288 HB ⊢
          have hnb73 := NB274_288.out
          have hnc73 := NB288_274.out
          have hcz74_0 : w67.cell? ⟨gb274, 0, none⟩ = some (.string (⟨#[]⟩ : ByteArray)) := (blk_cell BK274.out 0).trans rfl
          have hcz74_1 : w67.cell? ⟨gb274, 1, none⟩ = some (.int .u64 0) := (blk_cell BK274.out 1).trans rfl
          have hcz74_2 : w67.cell? ⟨gb274, 2, none⟩ = some (.int .i64 0) := (blk_cell BK274.out 2).trans rfl
          have hcz74_3 : w67.cell? ⟨gb274, 3, none⟩ = some (.string (⟨#[]⟩ : ByteArray)) := (blk_cell BK274.out 3).trans rfl
          have hcz74_4 : w67.cell? ⟨gb274, 4, none⟩ = some (.string (⟨#[]⟩ : ByteArray)) := (blk_cell BK274.out 4).trans rfl
          have hfz74_0 := blk_frozen BK274.out 0
          have hfz74_1 := blk_frozen BK274.out 1
          have hfz74_2 := blk_frozen BK274.out 2
          have hfz74_3 := blk_frozen BK274.out 3
          have hfz74_4 := blk_frozen BK274.out 4
          try go_wp2
          refine bodyPost_ret (results_ct rfl _ _ gb274 28 #[.string (⟨#[]⟩ : ByteArray), .int .u64 0, .int .i64 0, .string (⟨#[]⟩ : ByteArray), .string (⟨#[]⟩ : ByteArray)] (0, 0) _ rfl (by (with_reducible repeat (first | refine blk_drewN ?_ _ | refine blk_drew ?_ | refine blk_alloc ?_ _)); refine blk_put (cs := #[.string (⟨#[]⟩ : ByteArray), .int .u64 0, .int .i64 0, .string (⟨#[]⟩ : ByteArray), .string (⟨#[]⟩ : ByteArray)]) ?_ 4 _ rfl; (with_reducible repeat (first | refine blk_drewN ?_ _ | refine blk_drew ?_ | refine blk_alloc ?_ _)); refine blk_put (cs := #[.string (⟨#[]⟩ : ByteArray), .int .u64 0, .int .i64 0, .string (⟨#[]⟩ : ByteArray), .string (⟨#[]⟩ : ByteArray)]) ?_ 3 _ rfl; (with_reducible repeat (first | refine blk_drewN ?_ _ | refine blk_drew ?_ | refine blk_alloc ?_ _)); refine blk_put (cs := #[.string (⟨#[]⟩ : ByteArray), .int .u64 0, .int .i64 0, .string (⟨#[]⟩ : ByteArray), .string (⟨#[]⟩ : ByteArray)]) ?_ 2 _ rfl; (with_reducible repeat (first | refine blk_drewN ?_ _ | refine blk_drew ?_ | refine blk_alloc ?_ _)); refine blk_put (cs := #[.string (⟨#[]⟩ : ByteArray), .int .u64 0, .int .i64 0, .string (⟨#[]⟩ : ByteArray), .string (⟨#[]⟩ : ByteArray)]) ?_ 1 _ rfl; (with_reducible repeat (first | refine blk_drewN ?_ _ | refine blk_drew ?_ | refine blk_alloc ?_ _)); refine blk_put (cs := #[.string (⟨#[]⟩ : ByteArray), .int .u64 0, .int .i64 0, .string (⟨#[]⟩ : ByteArray), .string (⟨#[]⟩ : ByteArray)]) ?_ 0 _ rfl; (with_reducible repeat (first | refine blk_drewN ?_ _ | refine blk_drew ?_ | refine blk_alloc ?_ _)); exact BK274.out) Tryd.underlying28 rfl (by kernel_rfl)) rfl ?_
          exact ⟨by first | rfl | (simp [errW_none, errW_some] <;> rfl) | (simp only [← hji15]; first | rfl | (simp [errW_none, errW_some] <;> rfl)) | (simp [*, errW_none, errW_some] <;> rfl), by repeat (first | (with_reducible first | exact HB.out | apply below_alloc | apply pw_below_drewN | apply below_drew1 | refine below_set ?_ GE274.out | refine below_set ?_ GE288.out) | exact HB.out)⟩
        ·rw [if_neg c17] at H
         exact absurd H (by simp)
       ·rw [if_neg c16] at H
        exact absurd H (by simp)
      ·rw [if_neg c14] at H
       exact absurd H (by simp)
     ·rw [if_neg c12] at H
      exact absurd H (by simp)
    ·rw [if_neg c10] at H
     exact absurd H (by simp)
end Go.Proofs.YtodiffgpefidoaaDoor.P

