/- Slimmed by wip/slim.py. -/
import Derived.Test.YtodiffgpefidoaaDoorG0
import Derived.Test.YtodiffgpefidoaaDoorGFresh
import Derived.Test.YtodiffgpefidoaaDoorXTake
import Derived.Test.YtodiffgpefidoaaDoorXTerm
namespace Go.Proofs.YtodiffgpefidoaaDoor.P
open Go.RowKit Go.Proofs.YtodiffgpefidoaaDoorW.PrintWords Go.Proofs.YtodiffgpefidoaaDoorW.PrintLast Go.Proofs.YtodiffgpefidoaaDoorW.PrintMore
attribute [local go_sem] max2_int min2_int max_two min_two max_three min_three max_four min_four
set_option linter.unusedVariables false
set_option linter.unusedSimpArgs false
mutual
def fresh_Check.j0 : Nat → ByteArray → ByteArray → Int → Int → Bool → ByteArray → Int → Int → ByteArray → ByteArray → Option (Int)
 | 0, _, _, _, _, _, _, _, _, _, _ => none
 | k + 1, x1, x2, x3, x4, x20, x252000, x252001, x252002, x252003, x252004 => if x20 = true then (some 1) else ((fresh_signed.f k x252000 x252001 x252002 x252003 x252004).bind fun bt254 => (if bt254.2 = 0 then ((term_Verify.f x1 bt254.1 x252004).bind fun t256 => (fresh_Check.j1 k x2 x3 x4 (t256 != 0) x252000 x252001 x252002 x252003 x252004)) else (fresh_Check.j1 k x2 x3 x4 true x252000 x252001 x252002 x252003 x252004)))
def fresh_Check.j1 : Nat → ByteArray → Int → Int → Bool → ByteArray → Int → Int → ByteArray → ByteArray → Option (Int)
 | 0, _, _, _, _, _, _, _, _, _ => none
 | k + 1, x2, x3, x4, x26, x252000, x252001, x252002, x252003, x252004 => if x26 = true then (some 7) else (if x252000.toList = x2.toList then (if x252001 > x3 then (some 8) else (if (IntKind.u64.wrap (x3 - x252001)) > x4 then (some 8) else (some 0))) else (some 3))
end
def fresh_Check.f (k : Nat) (a0_0 : ByteArray) (a0_1 : Int) (a0_2 : Int) (a0_3 : ByteArray) (a0_4 : ByteArray) (a1 : ByteArray) (a2 : ByteArray) (a3 : Int) (a4 : Int) : Option (Int) := (fresh_Right.f k a0_0 a0_1 a0_2 a0_3 a0_4).bind fun t252 => (if t252 = true then ((term_Kind.f a1).bind fun t253 => (fresh_Check.j0 k a1 a2 a3 a4 (t253 != 117) a0_0 a0_1 a0_2 a0_3 a0_4)) else (fresh_Check.j0 k a1 a2 a3 a4 true a0_0 a0_1 a0_2 a0_3 a0_4))
set_option maxHeartbeats 8000000 in
set_option maxRecDepth 100000 in
theorem fresh_Check.calls (k : Nat) (a0_0 : ByteArray) (a0_1 : Int) (a0_2 : Int) (a0_3 : ByteArray) (a0_4 : ByteArray) (a1 : ByteArray) (a2 : ByteArray) (a3 : Int) (a4 : Int) (r : Int) (w : World) (h : fresh_Check.f k a0_0 a0_1 a0_2 a0_3 a0_4 a1 a2 a3 a4 = some r) (hV : Laid8 w) :
  Calls Tryd.prog 17 #[.agg #[.string a0_0, .int .u64 a0_1, .int .i64 a0_2, .string a0_3, .string a0_4], .string a1, .string a2, .int .u64 a3, .int .u64 a4] w fun e w' => e = .returned (.int .i64 r) ∧ Below w.heap.size w w' := by
 have HV := Aside0.mk hV
 clear hV
 have hu28 := Tryd.underlying28
 have HB := Aside0.mk (Below.refl w.heap.size w)
 have H : ((fresh_Right.f k a0_0 a0_1 a0_2 a0_3 a0_4).bind fun t252 => (if t252 = true then ((term_Kind.f a1).bind fun t253 => (fresh_Check.j0 k a1 a2 a3 a4 (t253 != 117) a0_0 a0_1 a0_2 a0_3 a0_4)) else (fresh_Check.j0 k a1 a2 a3 a4 true a0_0 a0_1 a0_2 a0_3 a0_4))) = some r := h
 clear h
 have HC6 := Aside0.mk H
 clear H
 go_enter Tryd.func17, Tryd.ntmps17
 go_upto_region 1 with (first | ((with_reducible refine gate_dst (N := 5) rfl ?_); refine box_event ?hg (N := 5) ?hd (cs := #[.string a0_0, .int .u64 a0_1, .int .i64 a0_2, .string a0_3, .string a0_4]) (t := 28) ?hr ?_; (case hd => rfl); (case hg => rfl); (case hr => first | (go_simp; done) | (go_simp; rfl)); intro gb251 hg w7 hbox hb; have n0_ := Aside0.mk (below_step (by repeat (first | (with_reducible first | exact HB.out | apply below_alloc | apply pw_below_drewN | apply below_drew1) | exact HB.out)) hb); have n1_ := Aside0.mk (hbox); have n2_ := Aside0.mk ((by rw [hg]; exact (below_size (by repeat (first | (with_reducible first | exact HB.out | apply below_alloc | apply pw_below_drewN | apply below_drew1) | exact HB.out))) : w.heap.size ≤ gb251)); have n3_ := Aside0.mk ((by rw [hg]; exact (below_size (by repeat (first | (with_reducible first | exact HB.out | apply below_alloc | apply pw_below_drewN | apply below_drew1) | exact HB.out))) : w.heap.size ≤ gb251)); clear HB; have HB := n0_; have BK251 := n1_; have GW251 := n2_; have GE251 := n3_; clear n0_ n1_ n2_ n3_; clear hb hbox hg))
 (try simp only [Act.put, List.setIfInBounds_toArray, List.set_cons_zero, List.set_cons_succ])
 go_cut [20] (fun v20 wc => ∃ (kq : Nat) (x20_5 : Bool), v20 = .bool x20_5 ∧ Aside0 (fresh_Check.j0 kq a1 a2 a3 a4 x20_5 a0_0 a0_1 a0_2 a0_3 a0_4 = some r) ∧ Aside0 (kq ≤ k) ∧ Aside0 (wc.heap[gb251]? = some (.cells #[.string a0_0, .int .u64 a0_1, .int .i64 a0_2, .string a0_3, .string a0_4] 28 (0, 0))) ∧ Aside0 (Below w.heap.size w wc))
 case first =>
  have H := HC6.out
  clear HC6
  replace H := Option.bind_eq_some_iff.mp H
  obtain ⟨t252, A80, H⟩ := H
  replace H : (if t252 = true then ((term_Kind.f a1).bind fun t253 => (fresh_Check.j0 k a1 a2 a3 a4 (t253 != 117) a0_0 a0_1 a0_2 a0_3 a0_4)) else (fresh_Check.j0 k a1 a2 a3 a4 true a0_0 a0_1 a0_2 a0_3 a0_4)) = some r := H
  have A8 := Aside0.mk A80
  clear A80
  by_cases c9 : t252 = true
  ·subst c9
   have H1 : ((term_Kind.f a1).bind fun t253 => (fresh_Check.j0 k a1 a2 a3 a4 (t253 != 117) a0_0 a0_1 a0_2 a0_3 a0_4)) = some r := by rw [if_pos rfl] at H; exact H
   clear H
   have H := H1
   clear H1
   replace H := Option.bind_eq_some_iff.mp H
   obtain ⟨t253, A100, H⟩ := H
   replace H : (fresh_Check.j0 k a1 a2 a3 a4 (t253 != 117) a0_0 a0_1 a0_2 a0_3 a0_4) = some r := H
   have A10 := Aside0.mk A100
   clear A100
   have H' := Aside0.mk H
   clear H
   have hcz11_0 : w7.cell? ⟨gb251, 0, none⟩ = some (.string a0_0) := (blk_cell BK251.out 0).trans rfl
   have hcz11_1 : w7.cell? ⟨gb251, 1, none⟩ = some (.int .u64 a0_1) := (blk_cell BK251.out 1).trans rfl
   have hcz11_2 : w7.cell? ⟨gb251, 2, none⟩ = some (.int .i64 a0_2) := (blk_cell BK251.out 2).trans rfl
   have hcz11_3 : w7.cell? ⟨gb251, 3, none⟩ = some (.string a0_3) := (blk_cell BK251.out 3).trans rfl
   have hcz11_4 : w7.cell? ⟨gb251, 4, none⟩ = some (.string a0_4) := (blk_cell BK251.out 4).trans rfl
   have hfz11_0 := blk_frozen BK251.out 0
   have hfz11_1 := blk_frozen BK251.out 1
   have hfz11_2 := blk_frozen BK251.out 2
   have hfz11_3 := blk_frozen BK251.out 3
   have hfz11_4 := blk_frozen BK251.out 4
   go_wp2_with (first | ((with_reducible refine gate_callee (f := 31) rfl ?_); refine goesL_ (some 14) rfl rfl Tryd.func31 (by kernel_rfl) rfl #[.agg #[.string a0_0, .int .u64 a0_1, .int .i64 a0_2, .string a0_3, .string a0_4]] rfl (by (try simp only [List.map_toArray, List.map_cons, List.map_nil]); first | done | rfl | (simp only [List.length_drop, List.length_take]; rfl)) ?_; (with_reducible refine (fresh_Right.calls k a0_0 a0_1 a0_2 a0_3 a0_4 true _ A8.out ?sidev).mono ?_); (case sidev => exact Laid8.below HV.out (by repeat (first | (with_reducible first | exact HB.out | apply below_alloc | apply pw_below_drewN | apply below_drew1 | refine below_set ?_ GE251.out) | exact HB.out))); rintro e w12 ⟨rfl, hb⟩; refine ⟨_, rfl, ?_⟩; have n0_ := Aside0.mk (blk_below (g := gb251) (o := .cells #[.string a0_0, .int .u64 a0_1, .int .i64 a0_2, .string a0_3, .string a0_4] 28 (0, 0)) (by (with_reducible repeat (first | refine blk_drewN ?_ _ | refine blk_drew ?_ | refine blk_alloc ?_ _)); exact BK251.out) hb); have n1_ := Aside0.mk (below_step (by repeat (first | (with_reducible first | exact HB.out | apply below_alloc | apply pw_below_drewN | apply below_drew1 | refine below_set ?_ GE251.out) | exact HB.out)) hb); clear BK251; clear HB; have BK251 := n0_; have HB := n1_; clear n0_ n1_; (try clear hb); (try clear hb2); (try clear hk); (try clear hi)) | (go_at_call 22; (with_reducible refine (term_Kind.calls a1 t253 _ A10.out).mono ?_); rintro e w13 ⟨rfl, hb⟩; have n0_ := Aside0.mk (blk_below (g := gb251) (o := .cells #[.string a0_0, .int .u64 a0_1, .int .i64 a0_2, .string a0_3, .string a0_4] 28 (0, 0)) (by (with_reducible repeat (first | refine blk_drewN ?_ _ | refine blk_drew ?_ | refine blk_alloc ?_ _)); exact BK251.out) hb); have n1_ := Aside0.mk (below_step (by repeat (first | (with_reducible first | exact HB.out | apply below_alloc | apply pw_below_drewN | apply below_drew1 | refine below_set ?_ GE251.out) | exact HB.out)) hb); clear BK251; clear HB; have BK251 := n0_; have HB := n1_; clear n0_ n1_; (try clear hb); (try clear hb2); (try clear hk); (try clear hi)))
   go_meet
   case rel => exact ⟨_, ((t253 != 117)), (by first | rfl | (simp; done) | (simp [*]; done) | (simp; exact isEmpty_ne _)), H', ⟨by first | omega | exact Nat.le_refl _⟩, ⟨by (with_reducible repeat (first | refine blk_drewN ?_ _ | refine blk_drew ?_ | refine blk_alloc ?_ _)); exact BK251.out⟩, ⟨by repeat (first | (with_reducible first | exact HB.out | apply below_alloc | apply pw_below_drewN | apply below_drew1 | refine below_set ?_ GE251.out) | exact HB.out)⟩⟩
  ·replace c9 := Bool.eq_false_iff.mpr c9
   subst c9
   have H1 : (fresh_Check.j0 k a1 a2 a3 a4 true a0_0 a0_1 a0_2 a0_3 a0_4) = some r := by rw [if_neg (show ¬ (false = true) by decide)] at H; exact H
   clear H
   have H := H1
   clear H1
   have H' := Aside0.mk H
   clear H
   have hcz14_0 : w7.cell? ⟨gb251, 0, none⟩ = some (.string a0_0) := (blk_cell BK251.out 0).trans rfl
   have hcz14_1 : w7.cell? ⟨gb251, 1, none⟩ = some (.int .u64 a0_1) := (blk_cell BK251.out 1).trans rfl
   have hcz14_2 : w7.cell? ⟨gb251, 2, none⟩ = some (.int .i64 a0_2) := (blk_cell BK251.out 2).trans rfl
   have hcz14_3 : w7.cell? ⟨gb251, 3, none⟩ = some (.string a0_3) := (blk_cell BK251.out 3).trans rfl
   have hcz14_4 : w7.cell? ⟨gb251, 4, none⟩ = some (.string a0_4) := (blk_cell BK251.out 4).trans rfl
   have hfz14_0 := blk_frozen BK251.out 0
   have hfz14_1 := blk_frozen BK251.out 1
   have hfz14_2 := blk_frozen BK251.out 2
   have hfz14_3 := blk_frozen BK251.out 3
   have hfz14_4 := blk_frozen BK251.out 4
   go_wp2_with (first | ((with_reducible refine gate_callee (f := 31) rfl ?_); refine goesL_ (some 14) rfl rfl Tryd.func31 (by kernel_rfl) rfl #[.agg #[.string a0_0, .int .u64 a0_1, .int .i64 a0_2, .string a0_3, .string a0_4]] rfl (by (try simp only [List.map_toArray, List.map_cons, List.map_nil]); first | done | rfl | (simp only [List.length_drop, List.length_take]; rfl)) ?_; (with_reducible refine (fresh_Right.calls k a0_0 a0_1 a0_2 a0_3 a0_4 false _ A8.out ?sidev).mono ?_); (case sidev => exact Laid8.below HV.out (by repeat (first | (with_reducible first | exact HB.out | apply below_alloc | apply pw_below_drewN | apply below_drew1 | refine below_set ?_ GE251.out) | exact HB.out))); rintro e w15 ⟨rfl, hb⟩; refine ⟨_, rfl, ?_⟩; have n0_ := Aside0.mk (blk_below (g := gb251) (o := .cells #[.string a0_0, .int .u64 a0_1, .int .i64 a0_2, .string a0_3, .string a0_4] 28 (0, 0)) (by (with_reducible repeat (first | refine blk_drewN ?_ _ | refine blk_drew ?_ | refine blk_alloc ?_ _)); exact BK251.out) hb); have n1_ := Aside0.mk (below_step (by repeat (first | (with_reducible first | exact HB.out | apply below_alloc | apply pw_below_drewN | apply below_drew1 | refine below_set ?_ GE251.out) | exact HB.out)) hb); clear BK251; clear HB; have BK251 := n0_; have HB := n1_; clear n0_ n1_; (try clear hb); (try clear hb2); (try clear hk); (try clear hi)))
   go_meet
   case rel => exact ⟨_, (true), (by first | rfl | (simp; done) | (simp [*]; done) | (simp; exact isEmpty_ne _)), H', ⟨by first | omega | exact Nat.le_refl _⟩, ⟨by (with_reducible repeat (first | refine blk_drewN ?_ _ | refine blk_drew ?_ | refine blk_alloc ?_ _)); exact BK251.out⟩, ⟨by repeat (first | (with_reducible first | exact HB.out | apply below_alloc | apply pw_below_drewN | apply below_drew1 | refine below_set ?_ GE251.out) | exact HB.out)⟩⟩
 case rest =>
  clear HC6
  try clear c1
  try clear p2
  try clear c3
  try clear c9
  try clear hcz11_0
  try clear hcz11_1
  try clear hcz11_2
  try clear hcz11_3
  try clear hcz11_4
  try clear hcz14_0
  try clear hcz14_1
  try clear hcz14_2
  try clear hcz14_3
  try clear hcz14_4
  try clear hfz11_0
  try clear hfz11_1
  try clear hfz11_2
  try clear hfz11_3
  try clear hfz11_4
  try clear hfz14_0
  try clear hfz14_1
  try clear hfz14_2
  try clear hfz14_3
  try clear hfz14_4
  obtain ⟨kq, x20_5, rfl, HA, HJ5, BK251, HB⟩ := hcut
  cases kq with
  | zero => exact absurd HA.out (by simp [fresh_Check.j0])
  | succ kj5 =>
   have H := HA.out
   clear HA
   simp only [fresh_Check.j0] at H
   by_cases c16 : x20_5 = true
   ·subst c16
    have H1 : (some 1) = some r := by rw [if_pos rfl] at H; exact H
    clear H
    have H := H1
    clear H1
    obtain rfl := Option.some.inj H
    go_wp2
    go_ret
    exact ⟨by first | rfl | (simp [errW_none, errW_some] <;> rfl) | (simp [*, errW_none, errW_some] <;> rfl), by repeat (first | (with_reducible first | exact HB.out | apply below_alloc | apply pw_below_drewN | apply below_drew1 | refine below_set ?_ GE251.out) | exact HB.out)⟩
   ·replace c16 := Bool.eq_false_iff.mpr c16
    subst c16
    have H1 : ((fresh_signed.f kj5 a0_0 a0_1 a0_2 a0_3 a0_4).bind fun bt254 => (if bt254.2 = 0 then ((term_Verify.f a1 bt254.1 a0_4).bind fun t256 => (fresh_Check.j1 kj5 a2 a3 a4 (t256 != 0) a0_0 a0_1 a0_2 a0_3 a0_4)) else (fresh_Check.j1 kj5 a2 a3 a4 true a0_0 a0_1 a0_2 a0_3 a0_4))) = some r := by rw [if_neg (show ¬ (false = true) by decide)] at H; exact H
    clear H
    have H := H1
    clear H1
    replace H := Option.bind_eq_some_iff.mp H
    obtain ⟨⟨t254, t255⟩, A170, H⟩ := H
    replace H : (if t255 = 0 then ((term_Verify.f a1 t254 a0_4).bind fun t256 => (fresh_Check.j1 kj5 a2 a3 a4 (t256 != 0) a0_0 a0_1 a0_2 a0_3 a0_4)) else (fresh_Check.j1 kj5 a2 a3 a4 true a0_0 a0_1 a0_2 a0_3 a0_4)) = some r := H
    have A17 := Aside0.mk A170
    clear A170
    have HC18 := Aside0.mk H
    clear H
    have hcz19_0 : wc.cell? ⟨gb251, 0, none⟩ = some (.string a0_0) := (blk_cell BK251.out 0).trans rfl
    have hcz19_1 : wc.cell? ⟨gb251, 1, none⟩ = some (.int .u64 a0_1) := (blk_cell BK251.out 1).trans rfl
    have hcz19_2 : wc.cell? ⟨gb251, 2, none⟩ = some (.int .i64 a0_2) := (blk_cell BK251.out 2).trans rfl
    have hcz19_3 : wc.cell? ⟨gb251, 3, none⟩ = some (.string a0_3) := (blk_cell BK251.out 3).trans rfl
    have hcz19_4 : wc.cell? ⟨gb251, 4, none⟩ = some (.string a0_4) := (blk_cell BK251.out 4).trans rfl
    have hfz19_0 := blk_frozen BK251.out 0
    have hfz19_1 := blk_frozen BK251.out 1
    have hfz19_2 := blk_frozen BK251.out 2
    have hfz19_3 := blk_frozen BK251.out 3
    have hfz19_4 := blk_frozen BK251.out 4
    go_upto_region 4 with (first | ((with_reducible refine gate_callee (f := 26) rfl ?_); refine goesL_ (some 23) rfl rfl Tryd.func26 (by kernel_rfl) rfl #[.agg #[.string a0_0, .int .u64 a0_1, .int .i64 a0_2, .string a0_3, .string a0_4]] rfl (by (try simp only [List.map_toArray, List.map_cons, List.map_nil]); first | done | rfl | (simp only [List.length_drop, List.length_take]; rfl)) ?_; (with_reducible refine (fresh_signed.calls kj5 a0_0 a0_1 a0_2 a0_3 a0_4 t254 t255 _ A17.out).mono ?_); rintro e w20 ⟨rfl, hb⟩; refine ⟨_, rfl, ?_⟩; have n0_ := Aside0.mk (blk_below (g := gb251) (o := .cells #[.string a0_0, .int .u64 a0_1, .int .i64 a0_2, .string a0_3, .string a0_4] 28 (0, 0)) (by (with_reducible repeat (first | refine blk_drewN ?_ _ | refine blk_drew ?_ | refine blk_alloc ?_ _)); exact BK251.out) hb); have n1_ := Aside0.mk (below_step (by repeat (first | (with_reducible first | exact HB.out | apply below_alloc | apply pw_below_drewN | apply below_drew1 | refine below_set ?_ GE251.out) | exact HB.out)) hb); clear BK251; clear HB; have BK251 := n0_; have HB := n1_; clear n0_ n1_; (try clear hb); (try clear hb2); (try clear hk); (try clear hi)))
    (try simp only [Act.put, List.setIfInBounds_toArray, List.set_cons_zero, List.set_cons_succ])
    go_cut [26] (fun v26 wc => ∃ (kq : Nat) (x26_17 : Bool), v26 = .bool x26_17 ∧ Aside0 (fresh_Check.j1 kq a2 a3 a4 x26_17 a0_0 a0_1 a0_2 a0_3 a0_4 = some r) ∧ Aside0 (kq ≤ kj5) ∧ Aside0 (wc.heap[gb251]? = some (.cells #[.string a0_0, .int .u64 a0_1, .int .i64 a0_2, .string a0_3, .string a0_4] 28 (0, 0))) ∧ Aside0 (Below w.heap.size w wc))
    case first =>
     have H := HC18.out
     clear HC18
     by_cases c21 : t255 = 0
     ·rw [if_pos c21] at H
      have c21b0 : (t255 == 0) = true := beq_iff_eq.mpr c21
      have c21b1 : (t255 != 0) = false := bne_eq_false_iff_eq.mpr c21
      clear c21
      (first | rw [c21b0] | (simp only [i64_w, i32_w]; rw [c21b0]) | rw [c21b1] | skip)
      replace H := Option.bind_eq_some_iff.mp H
      obtain ⟨t256, A220, H⟩ := H
      replace H : (fresh_Check.j1 kj5 a2 a3 a4 (t256 != 0) a0_0 a0_1 a0_2 a0_3 a0_4) = some r := H
      have A22 := Aside0.mk A220
      clear A220
      have H' := Aside0.mk H
      clear H
      have hcz23_0 : w20.cell? ⟨gb251, 0, none⟩ = some (.string a0_0) := (blk_cell BK251.out 0).trans rfl
      have hcz23_1 : w20.cell? ⟨gb251, 1, none⟩ = some (.int .u64 a0_1) := (blk_cell BK251.out 1).trans rfl
      have hcz23_2 : w20.cell? ⟨gb251, 2, none⟩ = some (.int .i64 a0_2) := (blk_cell BK251.out 2).trans rfl
      have hcz23_3 : w20.cell? ⟨gb251, 3, none⟩ = some (.string a0_3) := (blk_cell BK251.out 3).trans rfl
      have hcz23_4 : w20.cell? ⟨gb251, 4, none⟩ = some (.string a0_4) := (blk_cell BK251.out 4).trans rfl
      have hfz23_0 := blk_frozen BK251.out 0
      have hfz23_1 := blk_frozen BK251.out 1
      have hfz23_2 := blk_frozen BK251.out 2
      have hfz23_3 := blk_frozen BK251.out 3
      have hfz23_4 := blk_frozen BK251.out 4
      go_wp2_with (first | (go_at_call 36; (with_reducible refine (term_Verify.calls a1 t254 a0_4 t256 _ A22.out).mono ?_); rintro e w24 ⟨rfl, hb⟩; have n0_ := Aside0.mk (blk_below (g := gb251) (o := .cells #[.string a0_0, .int .u64 a0_1, .int .i64 a0_2, .string a0_3, .string a0_4] 28 (0, 0)) (by (with_reducible repeat (first | refine blk_drewN ?_ _ | refine blk_drew ?_ | refine blk_alloc ?_ _)); exact BK251.out) hb); have n1_ := Aside0.mk (below_step (by repeat (first | (with_reducible first | exact HB.out | apply below_alloc | apply pw_below_drewN | apply below_drew1 | refine below_set ?_ GE251.out) | exact HB.out)) hb); clear BK251; clear HB; have BK251 := n0_; have HB := n1_; clear n0_ n1_; (try clear hb); (try clear hb2); (try clear hk); (try clear hi)))
      go_meet
      case rel => exact ⟨_, ((t256 != 0)), (by first | rfl | (simp; done) | (simp [*]; done) | (simp; exact isEmpty_ne _)), H', ⟨by have := HJ5.out; first | omega | exact Nat.le_refl _⟩, ⟨by (with_reducible repeat (first | refine blk_drewN ?_ _ | refine blk_drew ?_ | refine blk_alloc ?_ _)); exact BK251.out⟩, ⟨by repeat (first | (with_reducible first | exact HB.out | apply below_alloc | apply pw_below_drewN | apply below_drew1 | refine below_set ?_ GE251.out) | exact HB.out)⟩⟩
     ·rw [if_neg c21] at H
      have c21b0 : (t255 == 0) = false := beq_eq_false_iff_ne.mpr c21
      have c21b1 : (t255 != 0) = true := bne_iff_ne.mpr c21
      (first | rw [c21b0] | (simp only [i64_w, i32_w]; rw [c21b0]) | rw [c21b1] | skip)
      have H' := Aside0.mk H
      clear H
      go_wp2
      go_meet
      case rel => exact ⟨_, (true), (by first | rfl | (simp; done) | (simp [*]; done) | (simp; exact isEmpty_ne _)), H', ⟨by have := HJ5.out; first | omega | exact Nat.le_refl _⟩, ⟨by (with_reducible repeat (first | refine blk_drewN ?_ _ | refine blk_drew ?_ | refine blk_alloc ?_ _)); exact BK251.out⟩, ⟨by repeat (first | (with_reducible first | exact HB.out | apply below_alloc | apply pw_below_drewN | apply below_drew1 | refine below_set ?_ GE251.out) | exact HB.out)⟩⟩
    case rest =>
     clear HC18
     try clear c1
     try clear c2
     try clear p2
     try clear c3
     try clear c9
     try clear c16
     try clear c17
     try clear c21
     try clear c21b0
     try clear c21b1
     try clear hcz11_0
     try clear hcz11_1
     try clear hcz11_2
     try clear hcz11_3
     try clear hcz11_4
     try clear hcz14_0
     try clear hcz14_1
     try clear hcz14_2
     try clear hcz14_3
     try clear hcz14_4
     try clear hcz19_0
     try clear hcz19_1
     try clear hcz19_2
     try clear hcz19_3
     try clear hcz19_4
     try clear hcz23_0
     try clear hcz23_1
     try clear hcz23_2
     try clear hcz23_3
     try clear hcz23_4
     try clear hfz11_0
     try clear hfz11_1
     try clear hfz11_2
     try clear hfz11_3
     try clear hfz11_4
     try clear hfz14_0
     try clear hfz14_1
     try clear hfz14_2
     try clear hfz14_3
     try clear hfz14_4
     try clear hfz19_0
     try clear hfz19_1
     try clear hfz19_2
     try clear hfz19_3
     try clear hfz19_4
     try clear hfz23_0
     try clear hfz23_1
     try clear hfz23_2
     try clear hfz23_3
     try clear hfz23_4
     try clear p2
     obtain ⟨kq, x26_17, rfl, HA, HJ17, BK251, HB⟩ := hcut
     cases kq with
     | zero => exact absurd HA.out (by simp [fresh_Check.j1])
     | succ kj17 =>
      have H := HA.out
      clear HA
      simp only [fresh_Check.j1] at H
      by_cases c25 : x26_17 = true
      ·subst c25
       have H1 : (some 7) = some r := by rw [if_pos rfl] at H; exact H
       clear H
       have H := H1
       clear H1
       obtain rfl := Option.some.inj H
       go_wp2
       go_ret
       exact ⟨by first | rfl | (simp [errW_none, errW_some] <;> rfl) | (simp [*, errW_none, errW_some] <;> rfl), by repeat (first | (with_reducible first | exact HB.out | apply below_alloc | apply pw_below_drewN | apply below_drew1 | refine below_set ?_ GE251.out) | exact HB.out)⟩
      ·replace c25 := Bool.eq_false_iff.mpr c25
       subst c25
       have H1 : (if a0_0.toList = a2.toList then (if a0_1 > a3 then (some 8) else (if (IntKind.u64.wrap (a3 - a0_1)) > a4 then (some 8) else (some 0))) else (some 3)) = some r := by rw [if_neg (show ¬ (false = true) by decide)] at H; exact H
       clear H
       have H := H1
       clear H1
       by_cases c26 : a0_0.toList = a2.toList
       ·rw [if_pos c26] at H
        have c26b0 : (a0_0.toList == a2.toList) = true := beq_iff_eq.mpr c26
        have c26b1 : (a0_0.toList != a2.toList) = false := bne_eq_false_iff_eq.mpr c26
        clear c26
        by_cases c27 : a0_1 > a3
        ·rw [if_pos c27] at H
         have c27b0 : decide (a3 < a0_1) = true := decide_eq_true c27
         clear c27
         obtain rfl := Option.some.inj H
         have hcz28_0 : wc.cell? ⟨gb251, 0, none⟩ = some (.string a0_0) := (blk_cell BK251.out 0).trans rfl
         have hcz28_1 : wc.cell? ⟨gb251, 1, none⟩ = some (.int .u64 a0_1) := (blk_cell BK251.out 1).trans rfl
         have hcz28_2 : wc.cell? ⟨gb251, 2, none⟩ = some (.int .i64 a0_2) := (blk_cell BK251.out 2).trans rfl
         have hcz28_3 : wc.cell? ⟨gb251, 3, none⟩ = some (.string a0_3) := (blk_cell BK251.out 3).trans rfl
         have hcz28_4 : wc.cell? ⟨gb251, 4, none⟩ = some (.string a0_4) := (blk_cell BK251.out 4).trans rfl
         have hfz28_0 := blk_frozen BK251.out 0
         have hfz28_1 := blk_frozen BK251.out 1
         have hfz28_2 := blk_frozen BK251.out 2
         have hfz28_3 := blk_frozen BK251.out 3
         have hfz28_4 := blk_frozen BK251.out 4
         go_wp2
         go_ret
         exact ⟨by first | rfl | (simp [errW_none, errW_some] <;> rfl) | (simp [*, errW_none, errW_some] <;> rfl), by repeat (first | (with_reducible first | exact HB.out | apply below_alloc | apply pw_below_drewN | apply below_drew1 | refine below_set ?_ GE251.out) | exact HB.out)⟩
        ·rw [if_neg c27] at H
         have c27b0 : decide (a3 < a0_1) = false := decide_eq_false c27
         clear c27
         by_cases c29 : (IntKind.u64.wrap (a3 - a0_1)) > a4
         ·rw [if_pos c29] at H
          have c29b0 : decide (a4 < (IntKind.u64.wrap (a3 - a0_1))) = true := decide_eq_true c29
          clear c29
          obtain rfl := Option.some.inj H
          have hcz30_0 : wc.cell? ⟨gb251, 0, none⟩ = some (.string a0_0) := (blk_cell BK251.out 0).trans rfl
          have hcz30_1 : wc.cell? ⟨gb251, 1, none⟩ = some (.int .u64 a0_1) := (blk_cell BK251.out 1).trans rfl
          have hcz30_2 : wc.cell? ⟨gb251, 2, none⟩ = some (.int .i64 a0_2) := (blk_cell BK251.out 2).trans rfl
          have hcz30_3 : wc.cell? ⟨gb251, 3, none⟩ = some (.string a0_3) := (blk_cell BK251.out 3).trans rfl
          have hcz30_4 : wc.cell? ⟨gb251, 4, none⟩ = some (.string a0_4) := (blk_cell BK251.out 4).trans rfl
          have hfz30_0 := blk_frozen BK251.out 0
          have hfz30_1 := blk_frozen BK251.out 1
          have hfz30_2 := blk_frozen BK251.out 2
          have hfz30_3 := blk_frozen BK251.out 3
          have hfz30_4 := blk_frozen BK251.out 4
          go_wp2
          go_ret
          exact ⟨by first | rfl | (simp [errW_none, errW_some] <;> rfl) | (simp [*, errW_none, errW_some] <;> rfl), by repeat (first | (with_reducible first | exact HB.out | apply below_alloc | apply pw_below_drewN | apply below_drew1 | refine below_set ?_ GE251.out) | exact HB.out)⟩
         ·rw [if_neg c29] at H
          have c29b0 : decide (a4 < (IntKind.u64.wrap (a3 - a0_1))) = false := decide_eq_false c29
          clear c29
          obtain rfl := Option.some.inj H
          have hcz31_0 : wc.cell? ⟨gb251, 0, none⟩ = some (.string a0_0) := (blk_cell BK251.out 0).trans rfl
          have hcz31_1 : wc.cell? ⟨gb251, 1, none⟩ = some (.int .u64 a0_1) := (blk_cell BK251.out 1).trans rfl
          have hcz31_2 : wc.cell? ⟨gb251, 2, none⟩ = some (.int .i64 a0_2) := (blk_cell BK251.out 2).trans rfl
          have hcz31_3 : wc.cell? ⟨gb251, 3, none⟩ = some (.string a0_3) := (blk_cell BK251.out 3).trans rfl
          have hcz31_4 : wc.cell? ⟨gb251, 4, none⟩ = some (.string a0_4) := (blk_cell BK251.out 4).trans rfl
          have hfz31_0 := blk_frozen BK251.out 0
          have hfz31_1 := blk_frozen BK251.out 1
          have hfz31_2 := blk_frozen BK251.out 2
          have hfz31_3 := blk_frozen BK251.out 3
          have hfz31_4 := blk_frozen BK251.out 4
          go_wp2
          go_ret
          exact ⟨by first | rfl | (simp [errW_none, errW_some] <;> rfl) | (simp [*, errW_none, errW_some] <;> rfl), by repeat (first | (with_reducible first | exact HB.out | apply below_alloc | apply pw_below_drewN | apply below_drew1 | refine below_set ?_ GE251.out) | exact HB.out)⟩
       ·rw [if_neg c26] at H
        have c26b0 : (a0_0.toList == a2.toList) = false := beq_eq_false_iff_ne.mpr c26
        have c26b1 : (a0_0.toList != a2.toList) = true := bne_iff_ne.mpr c26
        obtain rfl := Option.some.inj H
        have hcz32_0 : wc.cell? ⟨gb251, 0, none⟩ = some (.string a0_0) := (blk_cell BK251.out 0).trans rfl
        have hcz32_1 : wc.cell? ⟨gb251, 1, none⟩ = some (.int .u64 a0_1) := (blk_cell BK251.out 1).trans rfl
        have hcz32_2 : wc.cell? ⟨gb251, 2, none⟩ = some (.int .i64 a0_2) := (blk_cell BK251.out 2).trans rfl
        have hcz32_3 : wc.cell? ⟨gb251, 3, none⟩ = some (.string a0_3) := (blk_cell BK251.out 3).trans rfl
        have hcz32_4 : wc.cell? ⟨gb251, 4, none⟩ = some (.string a0_4) := (blk_cell BK251.out 4).trans rfl
        have hfz32_0 := blk_frozen BK251.out 0
        have hfz32_1 := blk_frozen BK251.out 1
        have hfz32_2 := blk_frozen BK251.out 2
        have hfz32_3 := blk_frozen BK251.out 3
        have hfz32_4 := blk_frozen BK251.out 4
        go_wp2
        go_ret
        exact ⟨by first | rfl | (simp [errW_none, errW_some] <;> rfl) | (simp [*, errW_none, errW_some] <;> rfl), by repeat (first | (with_reducible first | exact HB.out | apply below_alloc | apply pw_below_drewN | apply below_drew1 | refine below_set ?_ GE251.out) | exact HB.out)⟩
def fresh_number.f (a0 : ByteArray) : Option (Int × Bool) := (wire_Take.f a0).bind fun bt271 => (if bt271.2.2 = 0 then (some (bt271.1, (bt271.2.1.toList == ([] : List UInt8)))) else (some (bt271.1, false)))
set_option maxHeartbeats 8000000 in
set_option maxRecDepth 100000 in
theorem fresh_number.calls (a0 : ByteArray) (r1 : Int) (r2 : Bool) (w : World) (h : fresh_number.f a0 = some (r1, r2)) :
  Calls Tryd.prog 41 #[.string a0] w fun e w' => e = .returned (.tuple #[.int .u64 r1, .bool r2]) ∧ Below w.heap.size w w' := by
 have HB := Aside0.mk (Below.refl w.heap.size w)
 have H : ((wire_Take.f a0).bind fun bt271 => (if bt271.2.2 = 0 then (some (bt271.1, (bt271.2.1.toList == ([] : List UInt8)))) else (some (bt271.1, false)))) = some (r1, r2) := h
 clear h
 replace H := Option.bind_eq_some_iff.mp H
 obtain ⟨⟨t271, t272, t273⟩, A20, H⟩ := H
 replace H : (if t273 = 0 then (some (t271, (t272.toList == ([] : List UInt8)))) else (some (t271, false))) = some (r1, r2) := H
 have A2 := Aside0.mk A20
 clear A20
 by_cases c3 : t273 = 0
 ·rw [if_pos c3] at H
  have c3b0 : (t273 == 0) = true := beq_iff_eq.mpr c3
  have c3b1 : (t273 != 0) = false := bne_eq_false_iff_eq.mpr c3
  clear c3
  simp only [Option.some.injEq, Prod.mk.injEq] at H
  obtain ⟨rfl, rfl⟩ := H
  go_enter Tryd.func41, Tryd.ntmps41
  go_wp2_with (first | ((with_reducible refine gate_callee (f := 66) rfl ?_); refine goesL_ (some 9) rfl rfl Tryd.func66 (by kernel_rfl) rfl #[.string a0] rfl (by (try simp only [List.map_toArray, List.map_cons, List.map_nil]); first | done | rfl | (simp only [List.length_drop, List.length_take]; rfl)) ?_; (with_reducible refine (wire_Take.calls a0 t271 t272 t273 _ A2.out).mono ?_); rintro e w4 ⟨rfl, hb⟩; refine ⟨_, rfl, ?_⟩; have n0_ := Aside0.mk (below_step (by repeat (first | (with_reducible first | exact HB.out | apply below_alloc | apply pw_below_drewN | apply below_drew1) | exact HB.out)) hb); clear HB; have HB := n0_; clear n0_; (try clear hb); (try clear hb2); (try clear hk); (try clear hi)))
  go_ret2
  exact ⟨by first | rfl | (simp [errW_none, errW_some] <;> rfl) | (simp [*, errW_none, errW_some] <;> rfl), by repeat (first | (with_reducible first | exact HB.out | apply below_alloc | apply pw_below_drewN | apply below_drew1) | exact HB.out)⟩
 ·rw [if_neg c3] at H
  have c3b0 : (t273 == 0) = false := beq_eq_false_iff_ne.mpr c3
  have c3b1 : (t273 != 0) = true := bne_iff_ne.mpr c3
  simp only [Option.some.injEq, Prod.mk.injEq] at H
  obtain ⟨rfl, rfl⟩ := H
  go_enter Tryd.func41, Tryd.ntmps41
  go_wp2_with (first | ((with_reducible refine gate_callee (f := 66) rfl ?_); refine goesL_ (some 9) rfl rfl Tryd.func66 (by kernel_rfl) rfl #[.string a0] rfl (by (try simp only [List.map_toArray, List.map_cons, List.map_nil]); first | done | rfl | (simp only [List.length_drop, List.length_take]; rfl)) ?_; (with_reducible refine (wire_Take.calls a0 t271 t272 t273 _ A2.out).mono ?_); rintro e w5 ⟨rfl, hb⟩; refine ⟨_, rfl, ?_⟩; have n0_ := Aside0.mk (below_step (by repeat (first | (with_reducible first | exact HB.out | apply below_alloc | apply pw_below_drewN | apply below_drew1) | exact HB.out)) hb); clear HB; have HB := n0_; clear n0_; (try clear hb); (try clear hb2); (try clear hk); (try clear hi)))
  go_ret2
  exact ⟨by first | rfl | (simp [errW_none, errW_some] <;> rfl) | (simp [*, errW_none, errW_some] <;> rfl), by repeat (first | (with_reducible first | exact HB.out | apply below_alloc | apply pw_below_drewN | apply below_drew1) | exact HB.out)⟩
end Go.Proofs.YtodiffgpefidoaaDoor.P

