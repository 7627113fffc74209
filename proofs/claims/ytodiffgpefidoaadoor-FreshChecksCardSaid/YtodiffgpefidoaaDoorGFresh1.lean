/- Slimmed by wip/slim.py. -/
import Derived.Test.YtodiffgpefidoaaDoorG0
import Derived.Test.YtodiffgpefidoaaDoorGFresh
import Derived.Test.YtodiffgpefidoaaDoorGWire
import Derived.Test.YtodiffgpefidoaaDoorXTake
import Derived.Test.YtodiffgpefidoaaDoorXTerm
namespace Go.Proofs.YtodiffgpefidoaaDoor.P
open Go.RowKit Go.Proofs.YtodiffgpefidoaaDoorW.PrintWords Go.Proofs.YtodiffgpefidoaaDoorW.PrintLast Go.Proofs.YtodiffgpefidoaaDoorW.PrintMore
attribute [local go_sem] max2_int min2_int max_two min_two max_three min_three max_four min_four
set_option linter.unusedVariables false
set_option linter.unusedSimpArgs false
mutual
def fresh_Check.j0 : Nat → ByteArray → ByteArray → Int → Int → Bool → ByteArray → Int → Int → ByteArray → ByteArray → Option (Int)
 | 0, _, _, _, _, _, _, _, _, _, _ => none
 | k + 1, x1, x2, x3, x4, x20, x252000, x252001, x252002, x252003, x252004 => if x20 = true then (some 1) else ((fresh_signed.f k x252000 x252001 x252002 x252003 x252004).bind fun bt254 => (if bt254.2 = 0 then ((term_Verify.f x1 bt254.1 x252004).bind fun t256 => (fresh_Check.j1 k x2 x3 x4 (t256 != 0) x252000 x252001 x252002 x252003 x252004)) else (fresh_Check.j1 k x2 x3 x4 true x252000 x252001 x252002 x252003 x252004)))
def fresh_Check.j1 : Nat → ByteArray → Int → Int → Bool → ByteArray → Int → Int → ByteArray → ByteArray → Option (Int)
 | 0, _, _, _, _, _, _, _, _, _ => none
 | k + 1, x2, x3, x4, x26, x252000, x252001, x252002, x252003, x252004 => if x26 = true then (some 7) else (if x252000.toList = x2.toList then (if x252001 > x3 then (some 8) else (if (IntKind.u64.wrap (x3 - x252001)) > x4 then (some 8) else (some 0))) else (some 3))
end
def fresh_Check.f (k : Nat) (a0_0 : ByteArray) (a0_1 : Int) (a0_2 : Int) (a0_3 : ByteArray) (a0_4 : ByteArray) (a1 : ByteArray) (a2 : ByteArray) (a3 : Int) (a4 : Int) : Option (Int) := (fresh_Right.f k a0_0 a0_1 a0_2 a0_3 a0_4).bind fun t252 => (if t252 = true then ((term_Kind.f a1).bind fun t253 => (fresh_Check.j0 k a1 a2 a3 a4 (t253 != 117) a0_0 a0_1 a0_2 a0_3 a0_4)) else (fresh_Check.j0 k a1 a2 a3 a4 true a0_0 a0_1 a0_2 a0_3 a0_4))
set_option maxHeartbeats 8000000 in
set_option maxRecDepth 100000 in
theorem fresh_Check.calls (k : Nat) (a0_0 : ByteArray) (a0_1 : Int) (a0_2 : Int) (a0_3 : ByteArray) (a0_4 : ByteArray) (a1 : ByteArray) (a2 : ByteArray) (a3 : Int) (a4 : Int) (r : Int) (w : World) (h : fresh_Check.f k a0_0 a0_1 a0_2 a0_3 a0_4 a1 a2 a3 a4 = some r) (hV : Laid8 w) :
  Calls Tryd.prog 17 #[.agg #[.string a0_0, .int .u64 a0_1, .int .i64 a0_2, .string a0_3, .string a0_4], .string a1, .string a2, .int .u64 a3, .int .u64 a4] w fun e w' => e = .returned (.int .i64 r) ∧ Below w.heap.size w w' := by
 have HV := Aside0.mk hV
 clear hV
 have hu28 := Tryd.underlying28
 have HB := Aside0.mk (Below.refl w.heap.size w)
 have H : ((fresh_Right.f k a0_0 a0_1 a0_2 a0_3 a0_4).bind fun t252 => (if t252 = true then ((term_Kind.f a1).bind fun t253 => (fresh_Check.j0 k a1 a2 a3 a4 (t253 != 117) a0_0 a0_1 a0_2 a0_3 a0_4)) else (fresh_Check.j0 k a1 a2 a3 a4 true a0_0 a0_1 a0_2 a0_3 a0_4))) = some r := h
 clear h
 have HC6 := Aside0.mk H
 clear H
 go_enter Tryd.func17, Tryd.ntmps17
 go_upto_region 1 with (first | ((with_reducible refine gate_dst (N := 5) rfl ?_); refine box_event ?hg (N := 5) ?hd (cs := #[.string a0_0, .int .u64 a0_1, .int .i64 a0_2, .string a0_3, .string a0_4]) (t := 28) ?hr ?_; (case hd => rfl); (case hg => rfl); (case hr => first | (go_simp; done) | (go_simp; rfl)); intro gb251 hg w7 hbox hb; have n0_ := Aside0.mk (below_step (by repeat (first | (with_reducible first | exact HB.out | apply below_alloc | apply pw_below_drewN | apply below_drew1) | exact HB.out)) hb); have n1_ := Aside0.mk (hbox); have n2_ := Aside0.mk ((by rw [hg]; exact (below_size (by repeat (first | (with_reducible first | exact HB.out | apply below_alloc | apply pw_below_drewN | apply below_drew1) | exact HB.out))) : w.heap.size ≤ gb251)); have n3_ := Aside0.mk ((by rw [hg]; exact (below_size (by repeat (first | (with_reducible first | exact HB.out | apply below_alloc | apply pw_below_drewN | apply below_drew1) | exact HB.out))) : w.heap.size ≤ gb251)); clear HB; have HB := n0_; have BK251 := n1_; have GW251 := n2_; have GE251 := n3_; clear n0_ n1_ n2_ n3_; clear hb hbox hg))
 (try simp only [Act.put, List.setIfInBounds_toArray, List.set_cons_zero, List.set_cons_succ])
 go_cut [20] (fun v20 wc => ∃ (kq : Nat) (x20_5 : Bool), v20 = .bool x20_5 ∧ Aside0 (fresh_Check.j0 kq a1 a2 a3 a4 x20_5 a0_0 a0_1 a0_2 a0_3 a0_4 = some r) ∧ Aside0 (kq ≤ k) ∧ Aside0 (wc.heap[gb251]? = some (.cells #[.string a0_0, .int .u64 a0_1, .int .i64 a0_2, .string a0_3, .string a0_4] 28 (0, 0))) ∧ Aside0 (Below w.heap.size w wc))
 case first =>
  have H := HC6.out
  clear HC6
  replace H := Option.bind_eq_some_iff.mp H
  obtain ⟨t252, A80, H⟩ := H
  replace H : (if t252 = true then ((term_Kind.f a1).bind fun t253 => (fresh_Check.j0 k a1 a2 a3 a4 (t253 != 117) a0_0 a0_1 a0_2 a0_3 a0_4)) else (fresh_Check.j0 k a1 a2 a3 a4 true a0_0 a0_1 a0_2 a0_3 a0_4)) = some r := H
  have A8 := Aside0.mk A80
  clear A80
  by_cases c9 : t252 = true
  ·subst c9
   have H1 : ((term_Kind.f a1).bind fun t253 => (fresh_Check.j0 k a1 a2 a3 a4 (t253 != 117) a0_0 a0_1 a0_2 a0_3 a0_4)) = some r := by rw [if_pos rfl] at H; exact H
   clear H
   have H := H1
   clear H1
   replace H := Option.bind_eq_some_iff.mp H
   obtain ⟨t253, A100, H⟩ := H
   replace H : (fresh_Check.j0 k a1 a2 a3 a4 (t253 != 117) a0_0 a0_1 a0_2 a0_3 a0_4) = some r := H
   have A10 := Aside0.mk A100
   clear A100
   have H' := Aside0.mk H
   clear H
   have hcz11_0 : w7.cell? ⟨gb251, 0, none⟩ = some (.string a0_0) := (blk_cell BK251.out 0).trans rfl
   have hcz11_1 : w7.cell? ⟨gb251, 1, none⟩ = some (.int .u64 a0_1) := (blk_cell BK251.out 1).trans rfl
   have hcz11_2 : w7.cell? ⟨gb251, 2, none⟩ = some (.int .i64 a0_2) := (blk_cell BK251.out 2).trans rfl
   have hcz11_3 : w7.cell? ⟨gb251, 3, none⟩ = some (.string a0_3) := (blk_cell BK251.out 3).trans rfl
   have hcz11_4 : w7.cell? ⟨gb251, 4, none⟩ = some (.string a0_4) := (blk_cell BK251.out 4).trans rfl
   have hfz11_0 := blk_frozen BK251.out 0
   have hfz11_1 := blk_frozen BK251.out 1
   have hfz11_2 := blk_frozen BK251.out 2
   have hfz11_3 := blk_frozen BK251.out 3
   have hfz11_4 := blk_frozen BK251.out 4
   go_wp2_with (first | ((with_reducible refine gate_callee (f := 31) rfl ?_); refine goesL_ (some 14) rfl rfl Tryd.func31 (by kernel_rfl) rfl #[.agg #[.string a0_0, .int .u64 a0_1, .int .i64 a0_2, .string a0_3, .string a0_4]] rfl (by (try simp only [List.map_toArray, List.map_cons, List.map_nil]); first | done | rfl | (simp only [List.length_drop, List.length_take]; rfl)) ?_; (with_reducible refine (fresh_Right.calls k a0_0 a0_1 a0_2 a0_3 a0_4 true _ A8.out ?sidev).mono ?_); (case sidev => exact Laid8.below HV.out (by repeat (first | (with_reducible first | exact HB.out | apply below_alloc | apply pw_below_drewN | apply below_drew1 | refine below_set ?_ GE251.out) | exact HB.out))); rintro e w12 ⟨rfl, hb⟩; refine ⟨_, rfl, ?_⟩; have n0_ := Aside0.mk (blk_below (g := gb251) (o := .cells #[.string a0_0, .int .u64 a0_1, .int .i64 a0_2, .string a0_3, .string a0_4] 28 (0, 0)) (by (with_reducible repeat (first | refine blk_drewN ?_ _ | refine blk_drew ?_ | refine blk_alloc ?_ _)); exact BK251.out) hb); have n1_ := Aside0.mk (below_step (by repeat (first | (with_reducible first | exact HB.out | apply below_alloc | apply pw_below_drewN | apply below_drew1 | refine below_set ?_ GE251.out) | exact HB.out)) hb); clear BK251; clear HB; have BK251 := n0_; have HB := n1_; clear n0_ n1_; (try clear hb); (try clear hb2); (try clear hk); (try clear hi)) | (go_at_call 22; (with_reducible refine (term_Kind.calls a1 t253 _ A10.out).mono ?_); rintro e w13 ⟨rfl, hb⟩; have n0_ := Aside0.mk (blk_below (g := gb251) (o := .cells #[.string a0_0, .int .u64 a0_1, .int .i64 a0_2, .string a0_3, .string a0_4] 28 (0, 0)) (by (with_reducible repeat (first | refine blk_drewN ?_ _ | refine blk_drew ?_ | refine blk_alloc ?_ _)); exact BK251.out) hb); have n1_ := Aside0.mk (below_step (by repeat (first | (with_reducible first | exact HB.out | apply below_alloc | apply pw_below_drewN | apply below_drew1 | refine below_set ?_ GE251.out) | exact HB.out)) hb); clear BK251; clear HB; have BK251 := n0_; have HB := n1_; clear n0_ n1_; (try clear hb); (try clear hb2); (try clear hk); (try clear hi)))
   go_meet
   case rel => exact ⟨_, ((t253 != 117)), (by first | rfl | (simp; done) | (simp [*]; done) | (simp; exact isEmpty_ne _)), H', ⟨by first | omega | exact Nat.le_refl _⟩, ⟨by (with_reducible repeat (first | refine blk_drewN ?_ _ | refine blk_drew ?_ | refine blk_alloc ?_ _)); exact BK251.out⟩, ⟨by repeat (first | (with_reducible first | exact HB.out | apply below_alloc | apply pw_below_drewN | apply below_drew1 | refine below_set ?_ GE251.out) | exact HB.out)⟩⟩
  ·replace c9 := Bool.eq_false_iff.mpr c9
   subst c9
   have H1 : (fresh_Check.j0 k a1 a2 a3 a4 true a0_0 a0_1 a0_2 a0_3 a0_4) = some r := by rw [if_neg (show ¬ (false = true) by decide)] at H; exact H
   clear H
   have H := H1
   clear H1
   have H' := Aside0.mk H
   clear H
   have hcz14_0 : w7.cell? ⟨gb251, 0, none⟩ = some (.string a0_0) := (blk_cell BK251.out 0).trans rfl
   have hcz14_1 : w7.cell? ⟨gb251, 1, none⟩ = some (.int .u64 a0_1) := (blk_cell BK251.out 1).trans rfl
   have hcz14_2 : w7.cell? ⟨gb251, 2, none⟩ = some (.int .i64 a0_2) := (blk_cell BK251.out 2).trans rfl
   have hcz14_3 : w7.cell? ⟨gb251, 3, none⟩ = some (.string a0_3) := (blk_cell BK251.out 3).trans rfl
   have hcz14_4 : w7.cell? ⟨gb251, 4, none⟩ = some (.string a0_4) := (blk_cell BK251.out 4).trans rfl
   have hfz14_0 := blk_frozen BK251.out 0
   have hfz14_1 := blk_frozen BK251.out 1
   have hfz14_2 := blk_frozen BK251.out 2
   have hfz14_3 := blk_frozen BK251.out 3
   have hfz14_4 := blk_frozen BK251.out 4
   go_wp2_with (first | ((with_reducible refine gate_callee (f := 31) rfl ?_); refine goesL_ (some 14) rfl rfl Tryd.func31 (by kernel_rfl) rfl #[.agg #[.string a0_0, .int .u64 a0_1, .int .i64 a0_2, .string a0_3, .string a0_4]] rfl (by (try simp only [List.map_toArray, List.map_cons, List.map_nil]); first | done | rfl | (simp only [List.length_drop, List.length_take]; rfl)) ?_; (with_reducible refine (fresh_Right.calls k a0_0 a0_1 a0_2 a0_3 a0_4 false _ A8.out ?sidev).mono ?_); (case sidev => exact Laid8.below HV.out (by repeat (first | (with_reducible first | exact HB.out | apply below_alloc | apply pw_below_drewN | apply below_drew1 | refine below_set ?_ GE251.out) | exact HB.out))); rintro e w15 ⟨rfl, hb⟩; refine ⟨_, rfl, ?_⟩; have n0_ := Aside0.mk (blk_below (g := gb251) (o := .cells #[.string a0_0, .int .u64 a0_1, .int .i64 a0_2, .string a0_3, .string a0_4] 28 (0, 0)) (by (with_reducible repeat (first | refine blk_drewN ?_ _ | refine blk_drew ?_ | refine blk_alloc ?_ _)); exact BK251.out) hb); have n1_ := Aside0.mk (below_step (by repeat (first | (with_reducible first | exact HB.out | apply below_alloc | apply pw_below_drewN | apply below_drew1 | refine below_set ?_ GE251.out) | exact HB.out)) hb); clear BK251; clear HB; have BK251 := n0_; have HB := n1_; clear n0_ n1_; (try clear hb); (try clear hb2); (try clear hk); (try clear hi)))
   go_meet
   case rel => exact ⟨_, (true), (by first | rfl | (simp; done) | (simp [*]; done) | (simp; exact isEmpty_ne _)), H', ⟨by first | omega | exact Nat.le_refl _⟩, ⟨by (with_reducible repeat (first | refine blk_drewN ?_ _ | refine blk_drew ?_ | refine blk_alloc ?_ _)); exact BK251.out⟩, ⟨by repeat (first | (with_reducible first | exact HB.out | apply below_alloc | apply pw_below_drewN | apply below_drew1 | refine below_set ?_ GE251.out) | exact HB.out)⟩⟩
 case rest =>
  clear HC6
  try clear c1
  try clear p2
  try clear c3
  try clear c9
  try clear hcz11_0
  try clear hcz11_1
  try clear hcz11_2
  try clear hcz11_3
  try clear hcz11_4
  try clear hcz14_0
  try clear hcz14_1
  try clear hcz14_2
  try clear hcz14_3
  try clear hcz14_4
  try clear hfz11_0
  try clear hfz11_1
  try clear hfz11_2
  try clear hfz11_3
  try clear hfz11_4
  try clear hfz14_0
  try clear hfz14_1
  try clear hfz14_2
  try clear hfz14_3
  try clear hfz14_4
  obtain ⟨kq, x20_5, rfl, HA, HJ5, BK251, HB⟩ := hcut
  cases kq with
  | zero => exact absurd HA.out (by simp [fresh_Check.j0])
  | succ kj5 =>
   have H := HA.out
   clear HA
   simp only [fresh_Check.j0] at H
   by_cases c16 : x20_5 = true
   ·subst c16
    have H1 : (some 1) = some r := by rw [if_pos rfl] at H; exact H
    clear H
    have H := H1
    clear H1
    obtain rfl := Option.some.inj H
    go_wp2
    go_ret
    exact ⟨by first | rfl | (simp [errW_none, errW_some] <;> rfl) | (simp [*, errW_none, errW_some] <;> rfl), by repeat (first | (with_reducible first | exact HB.out | apply below_alloc | apply pw_below_drewN | apply below_drew1 | refine below_set ?_ GE251.out) | exact HB.out)⟩
   ·replace c16 := Bool.eq_false_iff.mpr c16
    subst c16
    have H1 : ((fresh_signed.f kj5 a0_0 a0_1 a0_2 a0_3 a0_4).bind fun bt254 => (if bt254.2 = 0 then ((term_Verify.f a1 bt254.1 a0_4).bind fun t256 => (fresh_Check.j1 kj5 a2 a3 a4 (t256 != 0) a0_0 a0_1 a0_2 a0_3 a0_4)) else (fresh_Check.j1 kj5 a2 a3 a4 true a0_0 a0_1 a0_2 a0_3 a0_4))) = some r := by rw [if_neg (show ¬ (false = true) by decide)] at H; exact H
    clear H
    have H := H1
    clear H1
    replace H := Option.bind_eq_some_iff.mp H
    obtain ⟨⟨t254, t255⟩, A170, H⟩ := H
    replace H : (if t255 = 0 then ((term_Verify.f a1 t254 a0_4).bind fun t256 => (fresh_Check.j1 kj5 a2 a3 a4 (t256 != 0) a0_0 a0_1 a0_2 a0_3 a0_4)) else (fresh_Check.j1 kj5 a2 a3 a4 true a0_0 a0_1 a0_2 a0_3 a0_4)) = some r := H
    have A17 := Aside0.mk A170
    clear A170
    have HC18 := Aside0.mk H
    clear H
    have hcz19_0 : wc.cell? ⟨gb251, 0, none⟩ = some (.string a0_0) := (blk_cell BK251.out 0).trans rfl
    have hcz19_1 : wc.cell? ⟨gb251, 1, none⟩ = some (.int .u64 a0_1) := (blk_cell BK251.out 1).trans rfl
    have hcz19_2 : wc.cell? ⟨gb251, 2, none⟩ = some (.int .i64 a0_2) := (blk_cell BK251.out 2).trans rfl
    have hcz19_3 : wc.cell? ⟨gb251, 3, none⟩ = some (.string a0_3) := (blk_cell BK251.out 3).trans rfl
    have hcz19_4 : wc.cell? ⟨gb251, 4, none⟩ = some (.string a0_4) := (blk_cell BK251.out 4).trans rfl
    have hfz19_0 := blk_frozen BK251.out 0
    have hfz19_1 := blk_frozen BK251.out 1
    have hfz19_2 := blk_frozen BK251.out 2
    have hfz19_3 := blk_frozen BK251.out 3
    have hfz19_4 := blk_frozen BK251.out 4
    go_upto_region 4 with (first | ((with_reducible refine gate_callee (f := 26) rfl ?_); refine goesL_ (some 23) rfl rfl Tryd.func26 (by kernel_rfl) rfl #[.agg #[.string a0_0, .int .u64 a0_1, .int .i64 a0_2, .string a0_3, .string a0_4]] rfl (by (try simp only [List.map_toArray, List.map_cons, List.map_nil]); first | done | rfl | (simp only [List.length_drop, List.length_take]; rfl)) ?_; (with_reducible refine (fresh_signed.calls kj5 a0_0 a0_1 a0_2 a0_3 a0_4 t254 t255 _ A17.out).mono ?_); rintro e w20 ⟨rfl, hb⟩; refine ⟨_, rfl, ?_⟩; have n0_ := Aside0.mk (blk_below (g := gb251) (o := .cells #[.string a0_0, .int .u64 a0_1, .int .i64 a0_2, .string a0_3, .string a0_4] 28 (0, 0)) (by (with_reducible repeat (first | refine blk_drewN ?_ _ | refine blk_drew ?_ | refine blk_alloc ?_ _)); exact BK251.out) hb); have n1_ := Aside0.mk (below_step (by repeat (first | (with_reducible first | exact HB.out | apply below_alloc | apply pw_below_drewN | apply below_drew1 | refine below_set ?_ GE251.out) | exact HB.out)) hb); clear BK251; clear HB; have BK251 := n0_; have HB := n1_; clear n0_ n1_; (try clear hb); (try clear hb2); (try clear hk); (try clear hi)))
    (try simp only [Act.put, List.setIfInBounds_toArray, List.set_cons_zero, List.set_cons_succ])
    go_cut [26] (fun v26 wc => ∃ (kq : Nat) (x26_17 : Bool), v26 = .bool x26_17 ∧ Aside0 (fresh_Check.j1 kq a2 a3 a4 x26_17 a0_0 a0_1 a0_2 a0_3 a0_4 = some r) ∧ Aside0 (kq ≤ kj5) ∧ Aside0 (wc.heap[gb251]? = some (.cells #[.string a0_0, .int .u64 a0_1, .int .i64 a0_2, .string a0_3, .string a0_4] 28 (0, 0))) ∧ Aside0 (Below w.heap.size w wc))
    case first =>
     have H := HC18.out
     clear HC18
     by_cases c21 : t255 = 0
     ·rw [if_pos c21] at H
      have c21b0 : (t255 == 0) = true := beq_iff_eq.mpr c21
      have c21b1 : (t255 != 0) = false := bne_eq_false_iff_eq.mpr c21
      clear c21
      (first | rw [c21b0] | (simp only [i64_w, i32_w]; rw [c21b0]) | rw [c21b1] | skip)
      replace H := Option.bind_eq_some_iff.mp H
      obtain ⟨t256, A220, H⟩ := H
      replace H : (fresh_Check.j1 kj5 a2 a3 a4 (t256 != 0) a0_0 a0_1 a0_2 a0_3 a0_4) = some r := H
      have A22 := Aside0.mk A220
      clear A220
      have H' := Aside0.mk H
      clear H
      have hcz23_0 : w20.cell? ⟨gb251, 0, none⟩ = some (.string a0_0) := (blk_cell BK251.out 0).trans rfl
      have hcz23_1 : w20.cell? ⟨gb251, 1, none⟩ = some (.int .u64 a0_1) := (blk_cell BK251.out 1).trans rfl
      have hcz23_2 : w20.cell? ⟨gb251, 2, none⟩ = some (.int .i64 a0_2) := (blk_cell BK251.out 2).trans rfl
      have hcz23_3 : w20.cell? ⟨gb251, 3, none⟩ = some (.string a0_3) := (blk_cell BK251.out 3).trans rfl
      have hcz23_4 : w20.cell? ⟨gb251, 4, none⟩ = some (.string a0_4) := (blk_cell BK251.out 4).trans rfl
      have hfz23_0 := blk_frozen BK251.out 0
      have hfz23_1 := blk_frozen BK251.out 1
      have hfz23_2 := blk_frozen BK251.out 2
      have hfz23_3 := blk_frozen BK251.out 3
      have hfz23_4 := blk_frozen BK251.out 4
      go_wp2_with (first | (go_at_call 36; (with_reducible refine (term_Verify.calls a1 t254 a0_4 t256 _ A22.out).mono ?_); rintro e w24 ⟨rfl, hb⟩; have n0_ := Aside0.mk (blk_below (g := gb251) (o := .cells #[.string a0_0, .int .u64 a0_1, .int .i64 a0_2, .string a0_3, .string a0_4] 28 (0, 0)) (by (with_reducible repeat (first | refine blk_drewN ?_ _ | refine blk_drew ?_ | refine blk_alloc ?_ _)); exact BK251.out) hb); have n1_ := Aside0.mk (below_step (by repeat (first | (with_reducible first | exact HB.out | apply below_alloc | apply pw_below_drewN | apply below_drew1 | refine below_set ?_ GE251.out) | exact HB.out)) hb); clear BK251; clear HB; have BK251 := n0_; have HB := n1_; clear n0_ n1_; (try clear hb); (try clear hb2); (try clear hk); (try clear hi)))
      go_meet
      case rel => exact ⟨_, ((t256 != 0)), (by first | rfl | (simp; done) | (simp [*]; done) | (simp; exact isEmpty_ne _)), H', ⟨by have := HJ5.out; first | omega | exact Nat.le_refl _⟩, ⟨by (with_reducible repeat (first | refine blk_drewN ?_ _ | refine blk_drew ?_ | refine blk_alloc ?_ _)); exact BK251.out⟩, ⟨by repeat (first | (with_reducible first | exact HB.out | apply below_alloc | apply pw_below_drewN | apply below_drew1 | refine below_set ?_ GE251.out) | exact HB.out)⟩⟩
     ·rw [if_neg c21] at H
      have c21b0 : (t255 == 0) = false := beq_eq_false_iff_ne.mpr c21
      have c21b1 : (t255 != 0) = true := bne_iff_ne.mpr c21
      (first | rw [c21b0] | (simp only [i64_w, i32_w]; rw [c21b0]) | rw [c21b1] | skip)
      have H' := Aside0.mk H
      clear H
      go_wp2
      go_meet
      case rel => exact ⟨_, (true), (by first | rfl | (simp; done) | (simp [*]; done) | (simp; exact isEmpty_ne _)), H', ⟨by have := HJ5.out; first | omega | exact Nat.le_refl _⟩, ⟨by (with_reducible repeat (first | refine blk_drewN ?_ _ | refine blk_drew ?_ | refine blk_alloc ?_ _)); exact BK251.out⟩, ⟨by repeat (first | (with_reducible first | exact HB.out | apply below_alloc | apply pw_below_drewN | apply below_drew1 | refine below_set ?_ GE251.out) | exact HB.out)⟩⟩
    case rest =>
     clear HC18
     try clear c1
     try clear c2
     try clear p2
     try clear c3
     try clear c9
     try clear c16
     try clear c17
     try clear c21
     try clear c21b0
     try clear c21b1
     try clear hcz11_0
     try clear hcz11_1
     try clear hcz11_2
     try clear hcz11_3
     try clear hcz11_4
     try clear hcz14_0
     try clear hcz14_1
     try clear hcz14_2
     try clear hcz14_3
     try clear hcz14_4
     try clear hcz19_0
     try clear hcz19_1
     try clear hcz19_2
     try clear hcz19_3
     try clear hcz19_4
     try clear hcz23_0
     try clear hcz23_1
     try clear hcz23_2
     try clear hcz23_3
     try clear hcz23_4
     try clear hfz11_0
     try clear hfz11_1
     try clear hfz11_2
     try clear hfz11_3
     try clear hfz11_4
     try clear hfz14_0
     try clear hfz14_1
     try clear hfz14_2
     try clear hfz14_3
     try clear hfz14_4
     try clear hfz19_0
     try clear hfz19_1
     try clear hfz19_2
     try clear hfz19_3
     try clear hfz19_4
     try clear hfz23_0
     try clear hfz23_1
     try clear hfz23_2
     try clear hfz23_3
     try clear hfz23_4
     try clear p2
     obtain ⟨kq, x26_17, rfl, HA, HJ17, BK251, HB⟩ := hcut
     cases kq with
     | zero => exact absurd HA.out (by simp [fresh_Check.j1])
     | succ kj17 =>
      have H := HA.out
      clear HA
      simp only [fresh_Check.j1] at H
      by_cases c25 : x26_17 = true
      ·subst c25
       have H1 : (some 7) = some r := by rw [if_pos rfl] at H; exact H
       clear H
       have H := H1
       clear H1
       obtain rfl := Option.some.inj H
       go_wp2
       go_ret
       exact ⟨by first | rfl | (simp [errW_none, errW_some] <;> rfl) | (simp [*, errW_none, errW_some] <;> rfl), by repeat (first | (with_reducible first | exact HB.out | apply below_alloc | apply pw_below_drewN | apply below_drew1 | refine below_set ?_ GE251.out) | exact HB.out)⟩
      ·replace c25 := Bool.eq_false_iff.mpr c25
       subst c25
       have H1 : (if a0_0.toList = a2.toList then (if a0_1 > a3 then (some 8) else (if (IntKind.u64.wrap (a3 - a0_1)) > a4 then (some 8) else (some 0))) else (some 3)) = some r := by rw [if_neg (show ¬ (false = true) by decide)] at H; exact H
       clear H
       have H := H1
       clear H1
       by_cases c26 : a0_0.toList = a2.toList
       ·rw [if_pos c26] at H
        have c26b0 : (a0_0.toList == a2.toList) = true := beq_iff_eq.mpr c26
        have c26b1 : (a0_0.toList != a2.toList) = false := bne_eq_false_iff_eq.mpr c26
        clear c26
        by_cases c27 : a0_1 > a3
        ·rw [if_pos c27] at H
         have c27b0 : decide (a3 < a0_1) = true := decide_eq_true c27
         clear c27
         obtain rfl := Option.some.inj H
         have hcz28_0 : wc.cell? ⟨gb251, 0, none⟩ = some (.string a0_0) := (blk_cell BK251.out 0).trans rfl
         have hcz28_1 : wc.cell? ⟨gb251, 1, none⟩ = some (.int .u64 a0_1) := (blk_cell BK251.out 1).trans rfl
         have hcz28_2 : wc.cell? ⟨gb251, 2, none⟩ = some (.int .i64 a0_2) := (blk_cell BK251.out 2).trans rfl
         have hcz28_3 : wc.cell? ⟨gb251, 3, none⟩ = some (.string a0_3) := (blk_cell BK251.out 3).trans rfl
         have hcz28_4 : wc.cell? ⟨gb251, 4, none⟩ = some (.string a0_4) := (blk_cell BK251.out 4).trans rfl
         have hfz28_0 := blk_frozen BK251.out 0
         have hfz28_1 := blk_frozen BK251.out 1
         have hfz28_2 := blk_frozen BK251.out 2
         have hfz28_3 := blk_frozen BK251.out 3
         have hfz28_4 := blk_frozen BK251.out 4
         go_wp2
         go_ret
         exact ⟨by first | rfl | (simp [errW_none, errW_some] <;> rfl) | (simp [*, errW_none, errW_some] <;> rfl), by repeat (first | (with_reducible first | exact HB.out | apply below_alloc | apply pw_below_drewN | apply below_drew1 | refine below_set ?_ GE251.out) | exact HB.out)⟩
        ·rw [if_neg c27] at H
         have c27b0 : decide (a3 < a0_1) = false := decide_eq_false c27
         clear c27
         by_cases c29 : (IntKind.u64.wrap (a3 - a0_1)) > a4
         ·rw [if_pos c29] at H
          have c29b0 : decide (a4 < (IntKind.u64.wrap (a3 - a0_1))) = true := decide_eq_true c29
          clear c29
          obtain rfl := Option.some.inj H
          have hcz30_0 : wc.cell? ⟨gb251, 0, none⟩ = some (.string a0_0) := (blk_cell BK251.out 0).trans rfl
          have hcz30_1 : wc.cell? ⟨gb251, 1, none⟩ = some (.int .u64 a0_1) := (blk_cell BK251.out 1).trans rfl
          have hcz30_2 : wc.cell? ⟨gb251, 2, none⟩ = some (.int .i64 a0_2) := (blk_cell BK251.out 2).trans rfl
          have hcz30_3 : wc.cell? ⟨gb251, 3, none⟩ = some (.string a0_3) := (blk_cell BK251.out 3).trans rfl
          have hcz30_4 : wc.cell? ⟨gb251, 4, none⟩ = some (.string a0_4) := (blk_cell BK251.out 4).trans rfl
          have hfz30_0 := blk_frozen BK251.out 0
          have hfz30_1 := blk_frozen BK251.out 1
          have hfz30_2 := blk_frozen BK251.out 2
          have hfz30_3 := blk_frozen BK251.out 3
          have hfz30_4 := blk_frozen BK251.out 4
          go_wp2
          go_ret
          exact ⟨by first | rfl | (simp [errW_none, errW_some] <;> rfl) | (simp [*, errW_none, errW_some] <;> rfl), by repeat (first | (with_reducible first | exact HB.out | apply below_alloc | apply pw_below_drewN | apply below_drew1 | refine below_set ?_ GE251.out) | exact HB.out)⟩
         ·rw [if_neg c29] at H
          have c29b0 : decide (a4 < (IntKind.u64.wrap (a3 - a0_1))) = false := decide_eq_false c29
          clear c29
          obtain rfl := Option.some.inj H
          have hcz31_0 : wc.cell? ⟨gb251, 0, none⟩ = some (.string a0_0) := (blk_cell BK251.out 0).trans rfl
          have hcz31_1 : wc.cell? ⟨gb251, 1, none⟩ = some (.int .u64 a0_1) := (blk_cell BK251.out 1).trans rfl
          have hcz31_2 : wc.cell? ⟨gb251, 2, none⟩ = some (.int .i64 a0_2) := (blk_cell BK251.out 2).trans rfl
          have hcz31_3 : wc.cell? ⟨gb251, 3, none⟩ = some (.string a0_3) := (blk_cell BK251.out 3).trans rfl
          have hcz31_4 : wc.cell? ⟨gb251, 4, none⟩ = some (.string a0_4) := (blk_cell BK251.out 4).trans rfl
          have hfz31_0 := blk_frozen BK251.out 0
          have hfz31_1 := blk_frozen BK251.out 1
          have hfz31_2 := blk_frozen BK251.out 2
          have hfz31_3 := blk_frozen BK251.out 3
          have hfz31_4 := blk_frozen BK251.out 4
          go_wp2
          go_ret
          exact ⟨by first | rfl | (simp [errW_none, errW_some] <;> rfl) | (simp [*, errW_none, errW_some] <;> rfl), by repeat (first | (with_reducible first | exact HB.out | apply below_alloc | apply pw_below_drewN | apply below_drew1 | refine below_set ?_ GE251.out) | exact HB.out)⟩
       ·rw [if_neg c26] at H
        have c26b0 : (a0_0.toList == a2.toList) = false := beq_eq_false_iff_ne.mpr c26
        have c26b1 : (a0_0.toList != a2.toList) = true := bne_iff_ne.mpr c26
        obtain rfl := Option.some.inj H
        have hcz32_0 : wc.cell? ⟨gb251, 0, none⟩ = some (.string a0_0) := (blk_cell BK251.out 0).trans rfl
        have hcz32_1 : wc.cell? ⟨gb251, 1, none⟩ = some (.int .u64 a0_1) := (blk_cell BK251.out 1).trans rfl
        have hcz32_2 : wc.cell? ⟨gb251, 2, none⟩ = some (.int .i64 a0_2) := (blk_cell BK251.out 2).trans rfl
        have hcz32_3 : wc.cell? ⟨gb251, 3, none⟩ = some (.string a0_3) := (blk_cell BK251.out 3).trans rfl
        have hcz32_4 : wc.cell? ⟨gb251, 4, none⟩ = some (.string a0_4) := (blk_cell BK251.out 4).trans rfl
        have hfz32_0 := blk_frozen BK251.out 0
        have hfz32_1 := blk_frozen BK251.out 1
        have hfz32_2 := blk_frozen BK251.out 2
        have hfz32_3 := blk_frozen BK251.out 3
        have hfz32_4 := blk_frozen BK251.out 4
        go_wp2
        go_ret
        exact ⟨by first | rfl | (simp [errW_none, errW_some] <;> rfl) | (simp [*, errW_none, errW_some] <;> rfl), by repeat (first | (with_reducible first | exact HB.out | apply below_alloc | apply pw_below_drewN | apply below_drew1 | refine below_set ?_ GE251.out) | exact HB.out)⟩
def fresh_number.f (a0 : ByteArray) : Option (Int × Bool) := (wire_Take.f a0).bind fun bt271 => (if bt271.2.2 = 0 then (some (bt271.1, (bt271.2.1.toList == ([] : List UInt8)))) else (some (bt271.1, false)))
set_option maxHeartbeats 8000000 in
set_option maxRecDepth 100000 in
theorem fresh_number.calls (a0 : ByteArray) (r1 : Int) (r2 : Bool) (w : World) (h : fresh_number.f a0 = some (r1, r2)) :
  Calls Tryd.prog 41 #[.string a0] w fun e w' => e = .returned (.tuple #[.int .u64 r1, .bool r2]) ∧ Below w.heap.size w w' := by
 have HB := Aside0.mk (Below.refl w.heap.size w)
 have H : ((wire_Take.f a0).bind fun bt271 => (if bt271.2.2 = 0 then (some (bt271.1, (bt271.2.1.toList == ([] : List UInt8)))) else (some (bt271.1, false)))) = some (r1, r2) := h
 clear h
 replace H := Option.bind_eq_some_iff.mp H
 obtain ⟨⟨t271, t272, t273⟩, A20, H⟩ := H
 replace H : (if t273 = 0 then (some (t271, (t272.toList == ([] : List UInt8)))) else (some (t271, false))) = some (r1, r2) := H
 have A2 := Aside0.mk A20
 clear A20
 by_cases c3 : t273 = 0
 ·rw [if_pos c3] at H
  have c3b0 : (t273 == 0) = true := beq_iff_eq.mpr c3
  have c3b1 : (t273 != 0) = false := bne_eq_false_iff_eq.mpr c3
  clear c3
  simp only [Option.some.injEq, Prod.mk.injEq] at H
  obtain ⟨rfl, rfl⟩ := H
  go_enter Tryd.func41, Tryd.ntmps41
  go_wp2_with (first | ((with_reducible refine gate_callee (f := 66) rfl ?_); refine goesL_ (some 9) rfl rfl Tryd.func66 (by kernel_rfl) rfl #[.string a0] rfl (by (try simp only [List.map_toArray, List.map_cons, List.map_nil]); first | done | rfl | (simp only [List.length_drop, List.length_take]; rfl)) ?_; (with_reducible refine (wire_Take.calls a0 t271 t272 t273 _ A2.out).mono ?_); rintro e w4 ⟨rfl, hb⟩; refine ⟨_, rfl, ?_⟩; have n0_ := Aside0.mk (below_step (by repeat (first | (with_reducible first | exact HB.out | apply below_alloc | apply pw_below_drewN | apply below_drew1) | exact HB.out)) hb); clear HB; have HB := n0_; clear n0_; (try clear hb); (try clear hb2); (try clear hk); (try clear hi)))
  go_ret2
  exact ⟨by first | rfl | (simp [errW_none, errW_some] <;> rfl) | (simp [*, errW_none, errW_some] <;> rfl), by repeat (first | (with_reducible first | exact HB.out | apply below_alloc | apply pw_below_drewN | apply below_drew1) | exact HB.out)⟩
 ·rw [if_neg c3] at H
  have c3b0 : (t273 == 0) = false := beq_eq_false_iff_ne.mpr c3
  have c3b1 : (t273 != 0) = true := bne_iff_ne.mpr c3
  simp only [Option.some.injEq, Prod.mk.injEq] at H
  obtain ⟨rfl, rfl⟩ := H
  go_enter Tryd.func41, Tryd.ntmps41
  go_wp2_with (first | ((with_reducible refine gate_callee (f := 66) rfl ?_); refine goesL_ (some 9) rfl rfl Tryd.func66 (by kernel_rfl) rfl #[.string a0] rfl (by (try simp only [List.map_toArray, List.map_cons, List.map_nil]); first | done | rfl | (simp only [List.length_drop, List.length_take]; rfl)) ?_; (with_reducible refine (wire_Take.calls a0 t271 t272 t273 _ A2.out).mono ?_); rintro e w5 ⟨rfl, hb⟩; refine ⟨_, rfl, ?_⟩; have n0_ := Aside0.mk (below_step (by repeat (first | (with_reducible first | exact HB.out | apply below_alloc | apply pw_below_drewN | apply below_drew1) | exact HB.out)) hb); clear HB; have HB := n0_; clear n0_; (try clear hb); (try clear hb2); (try clear hk); (try clear hi)))
  go_ret2
  exact ⟨by first | rfl | (simp [errW_none, errW_some] <;> rfl) | (simp [*, errW_none, errW_some] <;> rfl), by repeat (first | (with_reducible first | exact HB.out | apply below_alloc | apply pw_below_drewN | apply below_drew1) | exact HB.out)⟩
theorem fresh_Take.far5 {w : World} {g : Nat} {a : Addr} (h : a.block ≠ g) (v0 v1 v2 v3 v4 : Value) : (((((w.setCell ⟨g, 0, none⟩ v0).setCell ⟨g, 1, none⟩ v1).setCell ⟨g, 2, none⟩ v2).setCell ⟨g, 3, none⟩ v3).setCell ⟨g, 4, none⟩ v4).cell? a = w.cell? a :=
 (cell_far (p := ⟨g, 4, none⟩) h _).trans ((cell_far (p := ⟨g, 3, none⟩) h _).trans ((cell_far (p := ⟨g, 2, none⟩) h _).trans ((cell_far (p := ⟨g, 1, none⟩) h _).trans (cell_far (p := ⟨g, 0, none⟩) h _))))
set_option maxHeartbeats 8000000 in
set_option maxRecDepth 100000 in
theorem fresh_Take.store5 (ev : Operand → Value) (o : Oper) (p v : Operand) (ho : o.op = .store 28 p v) (w : World) (g : Nat) (a : ByteArray) (b c : Int) (d e : ByteArray) (hp : ev p = .pointer (some ⟨g, 0, none⟩)) (hv : ev v = .agg #[.string a, .int .u64 b, .int .i64 c, .string d, .string e])
  (h : w.heap[g]? = some (.cells #[.string (⟨#[]⟩ : ByteArray), .int .u64 0, .int .i64 0, .string (⟨#[]⟩ : ByteArray), .string (⟨#[]⟩ : ByteArray)] 28 (0, 0))) :
  (execOp ev o).run Tryd.prog w = .ok .skip (((((w.setCell ⟨g, 0, none⟩ (.string a)).setCell ⟨g, 1, none⟩ (.int .u64 b)).setCell ⟨g, 2, none⟩ (.int .i64 c)).setCell ⟨g, 3, none⟩ (.string d)).setCell ⟨g, 4, none⟩ (.string e)) := by
 obtain ⟨dst, op, ty, pos, aft, gd⟩ := o
 simp only at ho
 subst ho
 have hu28 := Tryd.underlying28
 have hs27 : w.cell? ⟨g, 0, none⟩ = some (.string (⟨#[]⟩ : ByteArray)) := (blk_cell h 0).trans rfl
 have hfs27 := blk_frozen h 0
 have hs28 : w.cell? ⟨g, 1, none⟩ = some (.int .u64 0) := (blk_cell h 1).trans rfl
 have hfs28 := blk_frozen h 1
 have hs29 : w.cell? ⟨g, 2, none⟩ = some (.int .i64 0) := (blk_cell h 2).trans rfl
 have hfs29 := blk_frozen h 2
 have hs30 : w.cell? ⟨g, 3, none⟩ = some (.string (⟨#[]⟩ : ByteArray)) := (blk_cell h 3).trans rfl
 have hfs30 := blk_frozen h 3
 have hs31 : w.cell? ⟨g, 4, none⟩ = some (.string (⟨#[]⟩ : ByteArray)) := (blk_cell h 4).trans rfl
 have hfs31 := blk_frozen h 4
 clear h
 go_simp
def fresh_Take.j0 : Nat → List ByteArray → Bool → Option (ByteArray × Int × Int × ByteArray × ByteArray × Int)
 | 0, _, _ => none
 | k + 1, x4, x22 => if x22 = true then (some ((⟨#[]⟩ : ByteArray), 0, 0, (⟨#[]⟩ : ByteArray), (⟨#[]⟩ : ByteArray), 2)) else (if 1 < (x4.length : Int) then ((fresh_number.f (rdOf ByteArray.empty x4 1)).bind fun bt280 => (if 2 < (x4.length : Int) then ((fresh_number.f (rdOf ByteArray.empty x4 2)).bind fun bt283 => (if 0 < (x4.length : Int) then (if 3 < (x4.length : Int) then (if 4 < (x4.length : Int) then (if bt280.2 = true then (if bt283.2 = true then ((fresh_Right.f k (rdOf ByteArray.empty x4 0) bt280.1 (wrap64 (mn bt283.1 9)) (rdOf ByteArray.empty x4 3) (rdOf ByteArray.empty x4 4)).bind fun t289 => (if t289 = true then (some (rdOf ByteArray.empty x4 0, bt280.1, wrap64 (mn bt283.1 9), rdOf ByteArray.empty x4 3, rdOf ByteArray.empty x4 4, 0)) else (none))) else (none)) else (none)) else (none)) else (none)) else (none))) else (none))) else (none))
def fresh_Take.f (k : Nat) (a0 : ByteArray) : Option (ByteArray × Int × Int × ByteArray × ByteArray × Int) := (wire_TakeAll.f k a0 5 4000).bind fun bt275 => (if bt275.2 = 0 then (fresh_Take.j0 k bt275.1 ((bt275.1.length : Int) != 5)) else (fresh_Take.j0 k bt275.1 true))
def fresh_Take.T6 : Bool × List (List Nat × List Nat) := (true, [([], []), ([0], [0]), ([1], [1]), ([], []), ([], []), ([4], [4]), ([5], [5]), ([], []), ([7], [7]), ([8], [8]), ([], []), ([10], [10]), ([11], [11]), ([2, 3, 6, 9, 12], [2, 3, 6, 9, 12]), ([], []), ([14, 13, 0, 1, 2, 3, 4, 5, 6, 7, 8, 9, 10, 11, 12, 13, 14], [13, 14])])
def fresh_Take.B6 : List Nat := [0, 1, 3, 0, 0, 16, 48, 0, 128, 384, 0, 1024, 3072, 8191, 0, 32767]
theorem fresh_Take.tab6 : rtab .any (opsOf Tryd.f20 6) = fresh_Take.T6 := by kernel_rfl
theorem fresh_Take.bits6 : waitsOk fresh_Take.T6.2 fresh_Take.B6 = true := by kernel_rfl
set_option maxHeartbeats 8000000 in
set_option maxRecDepth 100000 in
theorem fresh_Take.calls (k : Nat) (a0 : ByteArray) (r1 : ByteArray) (r2 : Int) (r3 : Int) (r4 : ByteArray) (r5 : ByteArray) (r6 : Int) (w : World) (h : fresh_Take.f k a0 = some (r1, r2, r3, r4, r5, r6)) (hV : Laid8 w) :
  Calls Tryd.prog 20 #[.string a0] w fun e w' => e = .returned (.tuple #[.agg #[.string r1, .int .u64 r2, .int .i64 r3, .string r4, .string r5], .int .i64 r6]) ∧ Below w.heap.size w w' := by
 have HV := Aside0.mk hV
 clear hV
 have hu28 := Tryd.underlying28
 have HB := Aside0.mk (Below.refl w.heap.size w)
 have H : ((wire_TakeAll.f k a0 5 4000).bind fun bt275 => (if bt275.2 = 0 then (fresh_Take.j0 k bt275.1 ((bt275.1.length : Int) != 5)) else (fresh_Take.j0 k bt275.1 true))) = some (r1, r2, r3, r4, r5, r6) := h
 clear h
 replace H := Option.bind_eq_some_iff.mp H
 obtain ⟨⟨t275, t276⟩, A20, H⟩ := H
 replace H : (if t276 = 0 then (fresh_Take.j0 k t275 ((t275.length : Int) != 5)) else (fresh_Take.j0 k t275 true)) = some (r1, r2, r3, r4, r5, r6) := H
 have A2 := Aside0.mk A20
 clear A20
 have HC3 := Aside0.mk H
 clear H
 go_enter Tryd.func20, Tryd.ntmps20
 go_upto_region 2 with (first | ((with_reducible refine gate_dst (N := 2) rfl ?_); (try (refine gate_guard (by rfl) ?_; dsimp only)); refine box_event ?hg (N := 2) ?hd (cs := #[.string (⟨#[]⟩ : ByteArray), .int .u64 0, .int .i64 0, .string (⟨#[]⟩ : ByteArray), .string (⟨#[]⟩ : ByteArray)]) (t := 28) ?hr ?_; (case hd => rfl); (case hg => rfl); (case hr => first | (go_simp; done) | (go_simp; rfl)); intro gb274 hg w4 hbox hb; have n0_ := Aside0.mk (below_step (by repeat (first | (with_reducible first | exact HB.out | apply below_alloc | apply pw_below_drewN | apply below_drew1) | exact HB.out)) hb); have n1_ := Aside0.mk (hbox); have n2_ := Aside0.mk ((by rw [hg]; exact (below_size (by repeat (first | (with_reducible first | exact HB.out | apply below_alloc | apply pw_below_drewN | apply below_drew1) | exact HB.out))) : w.heap.size ≤ gb274)); have n3_ := Aside0.mk ((by rw [hg]; exact (below_size (by repeat (first | (with_reducible first | exact HB.out | apply below_alloc | apply pw_below_drewN | apply below_drew1) | exact HB.out))) : w.heap.size ≤ gb274)); clear HB; have HB := n0_; have BK274 := n1_; have GW274 := n2_; have GE274 := n3_; clear n0_ n1_ n2_ n3_; clear hb hbox hg) | ((with_reducible refine gate_callee (f := 40) rfl ?_); refine goesL_ (some 13) rfl rfl Tryd.func40 (by kernel_rfl) rfl #[.string a0, .int .i64 5, .int .i64 4000] rfl (by (try simp only [List.map_toArray, List.map_cons, List.map_nil]); first | done | rfl | (simp only [List.length_drop, List.length_take]; rfl)) ?_; (with_reducible refine (wire_TakeAll.calls k a0 5 4000 t275 t276 _ A2.out).mono ?_); rintro e w5 ⟨v277, rfl, ho0, hb⟩; refine ⟨_, rfl, ?_⟩; have n0_ := Aside0.mk (Kd.R_lower ho0 (below_size (by repeat (first | (with_reducible first | exact HB.out | apply below_alloc | apply pw_below_drewN | apply below_drew1 | refine below_set ?_ GE274.out) | exact HB.out)))); have n1_ := Aside0.mk (blk_below (g := gb274) (o := .cells #[.string (⟨#[]⟩ : ByteArray), .int .u64 0, .int .i64 0, .string (⟨#[]⟩ : ByteArray), .string (⟨#[]⟩ : ByteArray)] 28 (0, 0)) (by (with_reducible repeat (first | refine blk_drewN ?_ _ | refine blk_drew ?_ | refine blk_alloc ?_ _)); exact BK274.out) hb); have n2_ := Aside0.mk (below_step (by repeat (first | (with_reducible first | exact HB.out | apply below_alloc | apply pw_below_drewN | apply below_drew1 | refine below_set ?_ GE274.out) | exact HB.out)) hb); clear BK274; clear HB; have HO278 := n0_; have BK274 := n1_; have HB := n2_; clear n0_ n1_ n2_; (try clear hb); (try clear hb2); (try clear hk); (try clear hi); (try clear ho0)))
 (try simp only [Act.put, List.setIfInBounds_toArray, List.set_cons_zero, List.set_cons_succ])
 go_cut [22] (fun v22 wc => ∃ (kq : Nat) (x22_2 : Bool), v22 = .bool x22_2 ∧ Aside0 (fresh_Take.j0 kq t275 x22_2 = some (r1, r2, r3, r4, r5, r6)) ∧ Aside0 (kq ≤ k) ∧ Aside0 (Kd.R Kd.string 9 wc w.heap.size (fun _ => True) v277 t275) ∧ Aside0 (wc.heap[gb274]? = some (.cells #[.string (⟨#[]⟩ : ByteArray), .int .u64 0, .int .i64 0, .string (⟨#[]⟩ : ByteArray), .string (⟨#[]⟩ : ByteArray)] 28 (0, 0))) ∧ Aside0 (Below w.heap.size w wc))
 case first =>
  have H := HC3.out
  clear HC3
  by_cases c6 : t276 = 0
  ·rw [if_pos c6] at H
   have c6b0 : (t276 == 0) = true := beq_iff_eq.mpr c6
   have c6b1 : (t276 != 0) = false := bne_eq_false_iff_eq.mpr c6
   clear c6
   (first | rw [c6b0] | (simp only [i64_w, i32_w]; rw [c6b0]) | rw [c6b1] | skip)
   have H' := Aside0.mk H
   clear H
   obtain ⟨Ao7, co7, eo7⟩ := Kd.R_slice HO278.out
   subst eo7
   go_wp2
   go_meet
   case rel => exact ⟨_, (((t275.length : Int) != 5)), (by first | rfl | (simp; done) | (simp [*]; done) | (simp; exact isEmpty_ne _)), H', ⟨by first | omega | exact Nat.le_refl _⟩, ⟨by (with_reducible repeat (first | apply Kd.R_alloc | apply Kd.R_drewN | apply Kd.R_drew)); exact HO278.out⟩, ⟨by (with_reducible repeat (first | refine blk_drewN ?_ _ | refine blk_drew ?_ | refine blk_alloc ?_ _)); exact BK274.out⟩, ⟨by repeat (first | (with_reducible first | exact HB.out | apply below_alloc | apply pw_below_drewN | apply below_drew1 | refine below_set ?_ GE274.out) | exact HB.out)⟩⟩
  ·rw [if_neg c6] at H
   have c6b0 : (t276 == 0) = false := beq_eq_false_iff_ne.mpr c6
   have c6b1 : (t276 != 0) = true := bne_iff_ne.mpr c6
   (first | rw [c6b0] | (simp only [i64_w, i32_w]; rw [c6b0]) | rw [c6b1] | skip)
   have H' := Aside0.mk H
   clear H
   go_wp2
   go_meet
   case rel => exact ⟨_, (true), (by first | rfl | (simp; done) | (simp [*]; done) | (simp; exact isEmpty_ne _)), H', ⟨by first | omega | exact Nat.le_refl _⟩, ⟨by (with_reducible repeat (first | apply Kd.R_alloc | apply Kd.R_drewN | apply Kd.R_drew)); exact HO278.out⟩, ⟨by (with_reducible repeat (first | refine blk_drewN ?_ _ | refine blk_drew ?_ | refine blk_alloc ?_ _)); exact BK274.out⟩, ⟨by repeat (first | (with_reducible first | exact HB.out | apply below_alloc | apply pw_below_drewN | apply below_drew1 | refine below_set ?_ GE274.out) | exact HB.out)⟩⟩
 case rest =>
  clear HC3
  try clear c2
  try clear p2
  try clear c4
  try clear c6
  try clear c6b0
  try clear c6b1
  obtain ⟨kq, x22_2, rfl, HA, HJ2, HO_4, BK274, HB⟩ := hcut
  cases kq with
  | zero => exact absurd HA.out (by simp [fresh_Take.j0])
  | succ kj2 =>
   have H := HA.out
   clear HA
   simp only [fresh_Take.j0] at H
   by_cases c8 : x22_2 = true
   ·subst c8
    have H1 : (some ((⟨#[]⟩ : ByteArray), 0, 0, (⟨#[]⟩ : ByteArray), (⟨#[]⟩ : ByteArray), 2)) = some (r1, r2, r3, r4, r5, r6) := by rw [if_pos rfl] at H; exact H
    clear H
    have H := H1
    clear H1
    simp only [Option.some.injEq, Prod.mk.injEq] at H
    obtain ⟨rfl, rfl, rfl, rfl, rfl, rfl⟩ := H
    have hcz9_0 : wc.cell? ⟨gb274, 0, none⟩ = some (.string (⟨#[]⟩ : ByteArray)) := (blk_cell BK274.out 0).trans rfl
    have hcz9_1 : wc.cell? ⟨gb274, 1, none⟩ = some (.int .u64 0) := (blk_cell BK274.out 1).trans rfl
    have hcz9_2 : wc.cell? ⟨gb274, 2, none⟩ = some (.int .i64 0) := (blk_cell BK274.out 2).trans rfl
    have hcz9_3 : wc.cell? ⟨gb274, 3, none⟩ = some (.string (⟨#[]⟩ : ByteArray)) := (blk_cell BK274.out 3).trans rfl
    have hcz9_4 : wc.cell? ⟨gb274, 4, none⟩ = some (.string (⟨#[]⟩ : ByteArray)) := (blk_cell BK274.out 4).trans rfl
    have hfz9_0 := blk_frozen BK274.out 0
    have hfz9_1 := blk_frozen BK274.out 1
    have hfz9_2 := blk_frozen BK274.out 2
    have hfz9_3 := blk_frozen BK274.out 3
    have hfz9_4 := blk_frozen BK274.out 4
    go_wp2
    refine bodyPost_ret (results_ct rfl _ _ gb274 28 #[.string (⟨#[]⟩ : ByteArray), .int .u64 0, .int .i64 0, .string (⟨#[]⟩ : ByteArray), .string (⟨#[]⟩ : ByteArray)] (0, 0) _ rfl (by (with_reducible repeat (first | refine blk_drewN ?_ _ | refine blk_drew ?_ | refine blk_alloc ?_ _)); refine blk_put (cs := #[.string (⟨#[]⟩ : ByteArray), .int .u64 0, .int .i64 0, .string (⟨#[]⟩ : ByteArray), .string (⟨#[]⟩ : ByteArray)]) ?_ 4 _ rfl; (with_reducible repeat (first | refine blk_drewN ?_ _ | refine blk_drew ?_ | refine blk_alloc ?_ _)); refine blk_put (cs := #[.string (⟨#[]⟩ : ByteArray), .int .u64 0, .int .i64 0, .string (⟨#[]⟩ : ByteArray), .string (⟨#[]⟩ : ByteArray)]) ?_ 3 _ rfl; (with_reducible repeat (first | refine blk_drewN ?_ _ | refine blk_drew ?_ | refine blk_alloc ?_ _)); refine blk_put (cs := #[.string (⟨#[]⟩ : ByteArray), .int .u64 0, .int .i64 0, .string (⟨#[]⟩ : ByteArray), .string (⟨#[]⟩ : ByteArray)]) ?_ 2 _ rfl; (with_reducible repeat (first | refine blk_drewN ?_ _ | refine blk_drew ?_ | refine blk_alloc ?_ _)); refine blk_put (cs := #[.string (⟨#[]⟩ : ByteArray), .int .u64 0, .int .i64 0, .string (⟨#[]⟩ : ByteArray), .string (⟨#[]⟩ : ByteArray)]) ?_ 1 _ rfl; (with_reducible repeat (first | refine blk_drewN ?_ _ | refine blk_drew ?_ | refine blk_alloc ?_ _)); refine blk_put (cs := #[.string (⟨#[]⟩ : ByteArray), .int .u64 0, .int .i64 0, .string (⟨#[]⟩ : ByteArray), .string (⟨#[]⟩ : ByteArray)]) ?_ 0 _ rfl; (with_reducible repeat (first | refine blk_drewN ?_ _ | refine blk_drew ?_ | refine blk_alloc ?_ _)); exact BK274.out) Tryd.underlying28 rfl (by kernel_rfl)) rfl ?_
    exact ⟨by first | rfl | (simp [errW_none, errW_some] <;> rfl) | (simp [*, errW_none, errW_some] <;> rfl), by repeat (first | (with_reducible first | exact HB.out | apply below_alloc | apply pw_below_drewN | apply below_drew1 | refine below_set ?_ GE274.out) | exact HB.out)⟩
   ·replace c8 := Bool.eq_false_iff.mpr c8
    subst c8
    have H1 : (if 1 < (t275.length : Int) then ((fresh_number.f (rdOf ByteArray.empty t275 1)).bind fun bt280 => (if 2 < (t275.length : Int) then ((fresh_number.f (rdOf ByteArray.empty t275 2)).bind fun bt283 => (if 0 < (t275.length : Int) then (if 3 < (t275.length : Int) then (if 4 < (t275.length : Int) then (if bt280.2 = true then (if bt283.2 = true then ((fresh_Right.f kj2 (rdOf ByteArray.empty t275 0) bt280.1 (wrap64 (mn bt283.1 9)) (rdOf ByteArray.empty t275 3) (rdOf ByteArray.empty t275 4)).bind fun t289 => (if t289 = true then (some (rdOf ByteArray.empty t275 0, bt280.1, wrap64 (mn bt283.1 9), rdOf ByteArray.empty t275 3, rdOf ByteArray.empty t275 4, 0)) else (none))) else (none)) else (none)) else (none)) else (none)) else (none))) else (none))) else (none)) = some (r1, r2, r3, r4, r5, r6) := by rw [if_neg (show ¬ (false = true) by decide)] at H; exact H
    clear H
    have H := H1
    clear H1
    by_cases c10 : 1 < (t275.length : Int)
    ·rw [if_pos c10] at H
     have c10b0 : decide (1 < (t275.length : Int)) = true := decide_eq_true c10
     have c10b1 : decide (1 < t275.length) = true := decide_eq_true (by omega)
     clear c10
     replace H := Option.bind_eq_some_iff.mp H
     obtain ⟨⟨t280, t281⟩, A110, H⟩ := H
     replace H : (if 2 < (t275.length : Int) then ((fresh_number.f (rdOf ByteArray.empty t275 2)).bind fun bt283 => (if 0 < (t275.length : Int) then (if 3 < (t275.length : Int) then (if 4 < (t275.length : Int) then (if t281 = true then (if bt283.2 = true then ((fresh_Right.f kj2 (rdOf ByteArray.empty t275 0) t280 (wrap64 (mn bt283.1 9)) (rdOf ByteArray.empty t275 3) (rdOf ByteArray.empty t275 4)).bind fun t289 => (if t289 = true then (some (rdOf ByteArray.empty t275 0, t280, wrap64 (mn bt283.1 9), rdOf ByteArray.empty t275 3, rdOf ByteArray.empty t275 4, 0)) else (none))) else (none)) else (none)) else (none)) else (none)) else (none))) else (none)) = some (r1, r2, r3, r4, r5, r6) := H
     have A11 := Aside0.mk A110
     clear A110
     by_cases c12 : 2 < (t275.length : Int)
     ·rw [if_pos c12] at H
      have c12b0 : decide (2 < (t275.length : Int)) = true := decide_eq_true c12
      have c12b1 : decide (2 < t275.length) = true := decide_eq_true (by omega)
      clear c12
      replace H := Option.bind_eq_some_iff.mp H
      obtain ⟨⟨t283, t284⟩, A130, H⟩ := H
      replace H : (if 0 < (t275.length : Int) then (if 3 < (t275.length : Int) then (if 4 < (t275.length : Int) then (if t281 = true then (if t284 = true then ((fresh_Right.f kj2 (rdOf ByteArray.empty t275 0) t280 (wrap64 (mn t283 9)) (rdOf ByteArray.empty t275 3) (rdOf ByteArray.empty t275 4)).bind fun t289 => (if t289 = true then (some (rdOf ByteArray.empty t275 0, t280, wrap64 (mn t283 9), rdOf ByteArray.empty t275 3, rdOf ByteArray.empty t275 4, 0)) else (none))) else (none)) else (none)) else (none)) else (none)) else (none)) = some (r1, r2, r3, r4, r5, r6) := H
      have A13 := Aside0.mk A130
      clear A130
      by_cases c14 : 0 < (t275.length : Int)
      ·rw [if_pos c14] at H
       have c14b0 : decide (0 < (t275.length : Int)) = true := decide_eq_true c14
       have c14b1 : decide (0 < t275.length) = true := decide_eq_true (by omega)
       clear c14
       obtain ⟨ji15, hji15⟩ : ∃ j_ : Int, (mn t283 9) = j_ := ⟨_, rfl⟩
       replace H : (if 3 < (t275.length : Int) then (if 4 < (t275.length : Int) then (if t281 = true then (if t284 = true then ((fresh_Right.f kj2 (rdOf ByteArray.empty t275 0) t280 (wrap64 (ji15)) (rdOf ByteArray.empty t275 3) (rdOf ByteArray.empty t275 4)).bind fun t289 => (if t289 = true then (some (rdOf ByteArray.empty t275 0, t280, wrap64 (ji15), rdOf ByteArray.empty t275 3, rdOf ByteArray.empty t275 4, 0)) else (none))) else (none)) else (none)) else (none)) else (none)) = some (r1, r2, r3, r4, r5, r6) := by first | (rw [hji15] at H; exact H) | (simp only [hji15] at H ⊢; exact H)
       (try rw [hji15] at A11)
       (try rw [hji15] at A13)
       (try (have hji15h : ji15 ≤ 9 := by (rw [← hji15]; unfold mn; (repeat' split) <;> omega)))
       (try (have hji15g : ji15 ≤ 64 := by omega))
       have hji15_ : (if 9 < t283 then 9 else t283) = ji15 := hji15
       by_cases c16 : 3 < (t275.length : Int)
       ·rw [if_pos c16] at H
        have c16b0 : decide (3 < (t275.length : Int)) = true := decide_eq_true c16
        have c16b1 : decide (3 < t275.length) = true := decide_eq_true (by omega)
        clear c16
        by_cases c17 : 4 < (t275.length : Int)
        ·rw [if_pos c17] at H
         have c17b0 : decide (4 < (t275.length : Int)) = true := decide_eq_true c17
         have c17b1 : decide (4 < t275.length) = true := decide_eq_true (by omega)
         clear c17
         by_cases c18 : t281 = true
         ·subst c18
          have H1 : (if t284 = true then ((fresh_Right.f kj2 (rdOf ByteArray.empty t275 0) t280 (wrap64 (ji15)) (rdOf ByteArray.empty t275 3) (rdOf ByteArray.empty t275 4)).bind fun t289 => (if t289 = true then (some (rdOf ByteArray.empty t275 0, t280, wrap64 (ji15), rdOf ByteArray.empty t275 3, rdOf ByteArray.empty t275 4, 0)) else (none))) else (none)) = some (r1, r2, r3, r4, r5, r6) := by rw [if_pos rfl] at H; exact H
          clear H
          have H := H1
          clear H1
          by_cases c19 : t284 = true
          ·subst c19
           have H1 : ((fresh_Right.f kj2 (rdOf ByteArray.empty t275 0) t280 (wrap64 (ji15)) (rdOf ByteArray.empty t275 3) (rdOf ByteArray.empty t275 4)).bind fun t289 => (if t289 = true then (some (rdOf ByteArray.empty t275 0, t280, wrap64 (ji15), rdOf ByteArray.empty t275 3, rdOf ByteArray.empty t275 4, 0)) else (none))) = some (r1, r2, r3, r4, r5, r6) := by rw [if_pos rfl] at H; exact H
           clear H
           have H := H1
           clear H1
           replace H := Option.bind_eq_some_iff.mp H
           obtain ⟨t289, A200, H⟩ := H
           replace H : (if t289 = true then (some (rdOf ByteArray.empty t275 0, t280, wrap64 (ji15), rdOf ByteArray.empty t275 3, rdOf ByteArray.empty t275 4, 0)) else (none)) = some (r1, r2, r3, r4, r5, r6) := H
           have A20 := Aside0.mk A200
           clear A200
           by_cases c21 : t289 = true
           ·subst c21
            have H1 : (some (rdOf ByteArray.empty t275 0, t280, wrap64 (ji15), rdOf ByteArray.empty t275 3, rdOf ByteArray.empty t275 4, 0)) = some (r1, r2, r3, r4, r5, r6) := by rw [if_pos rfl] at H; exact H
            clear H
            have H := H1
            clear H1
            simp only [Option.some.injEq, Prod.mk.injEq] at H
            obtain ⟨rfl, rfl, rfl, rfl, rfl, rfl⟩ := H
            obtain ⟨Ao22, co22, eo22⟩ := Kd.R_slice HO_4.out
            subst eo22
            have p279 : 0 ≤ (1 : Int) := (by omega)
            have q279 : 1 < (t275.length : Int) := of_decide_eq_true (by first | (with_reducible assumption) | assumption)
            obtain ⟨ad279, e279, hx279_0⟩ := Kd.at_string (Kd.R_reads' HO_4.out).2.2 1 p279 q279
            cases e279
            (try simp only [show (1 : Int).toNat = 1 from rfl, Nat.reduceMul, Nat.reduceEqDiff, Go.Addr.add, ↓reduceIte] at hx279_0)
            have qi279 : (1 < t275.length) = True := eq_true (by omega)
            (try rw [show ((1 : Int)).toNat = 1 from rfl] at hx279_0)
            replace p279 := eq_true p279
            replace q279 := eq_true q279
            try go_wp2_with (first | ((with_reducible refine gate_callee (f := 41) rfl ?_); refine goesL_ (some 28) rfl rfl Tryd.func41 (by kernel_rfl) rfl #[.string (rdOf ByteArray.empty t275 1)] rfl (by (try simp only [List.map_toArray, List.map_cons, List.map_nil]); first | done | rfl | (simp only [List.length_drop, List.length_take]; rfl)) ?_; (with_reducible refine (fresh_number.calls (rdOf ByteArray.empty t275 1) t280 true _ A11.out).mono ?_); rintro e w23 ⟨rfl, hb⟩; refine ⟨_, rfl, ?_⟩; have n0_ := Aside0.mk (Kd.R_below (by (with_reducible repeat (first | apply Kd.R_alloc | apply Kd.R_drewN | apply Kd.R_drew)); exact HO_4.out) hb); have n1_ := Aside0.mk (blk_below (g := gb274) (o := .cells #[.string (⟨#[]⟩ : ByteArray), .int .u64 0, .int .i64 0, .string (⟨#[]⟩ : ByteArray), .string (⟨#[]⟩ : ByteArray)] 28 (0, 0)) (by (with_reducible repeat (first | refine blk_drewN ?_ _ | refine blk_drew ?_ | refine blk_alloc ?_ _)); exact BK274.out) hb); have n2_ := Aside0.mk (below_step (by repeat (first | (with_reducible first | exact HB.out | apply below_alloc | apply pw_below_drewN | apply below_drew1 | refine below_set ?_ GE274.out) | exact HB.out)) hb); clear HO_4; clear BK274; clear HB; have HO_4 := n0_; have BK274 := n1_; have HB := n2_; clear n0_ n1_ n2_; (try clear hb); (try clear hb2); (try clear hk); (try clear hi); have p282 : 0 ≤ (2 : Int) := (by omega); have q282 : 2 < (t275.length : Int) := of_decide_eq_true (by first | (with_reducible assumption) | assumption); obtain ⟨ad282, e282, hx282_0⟩ := Kd.at_string (Kd.R_reads' HO_4.out).2.2 2 p282 q282; obtain rfl : ad279 = ad282 := (by injection e282); (try simp only [show (2 : Int).toNat = 2 from rfl, Nat.reduceMul, Nat.reduceEqDiff, Go.Addr.add, ↓reduceIte] at hx282_0); have qi282 : (2 < t275.length) = True := eq_true (by omega); (try rw [show ((2 : Int)).toNat = 2 from rfl] at hx282_0); replace p282 := eq_true p282; replace q282 := eq_true q282) | ((with_reducible refine gate_callee (f := 41) rfl ?_); refine goesL_ (some 35) rfl rfl Tryd.func41 (by kernel_rfl) rfl #[.string (rdOf ByteArray.empty t275 2)] rfl (by (try simp only [List.map_toArray, List.map_cons, List.map_nil]); first | done | rfl | (simp only [List.length_drop, List.length_take]; rfl)) ?_; (with_reducible refine (fresh_number.calls (rdOf ByteArray.empty t275 2) t283 true _ A13.out).mono ?_); rintro e w24 ⟨rfl, hb⟩; refine ⟨_, rfl, ?_⟩; have n0_ := Aside0.mk (Kd.R_below (by (with_reducible repeat (first | apply Kd.R_alloc | apply Kd.R_drewN | apply Kd.R_drew)); exact HO_4.out) hb); have n1_ := Aside0.mk (blk_below (g := gb274) (o := .cells #[.string (⟨#[]⟩ : ByteArray), .int .u64 0, .int .i64 0, .string (⟨#[]⟩ : ByteArray), .string (⟨#[]⟩ : ByteArray)] 28 (0, 0)) (by (with_reducible repeat (first | refine blk_drewN ?_ _ | refine blk_drew ?_ | refine blk_alloc ?_ _)); exact BK274.out) hb); have n2_ := Aside0.mk (below_step (by repeat (first | (with_reducible first | exact HB.out | apply below_alloc | apply pw_below_drewN | apply below_drew1 | refine below_set ?_ GE274.out) | exact HB.out)) hb); clear HO_4; clear BK274; clear HB; have HO_4 := n0_; have BK274 := n1_; have HB := n2_; clear n0_ n1_ n2_; (try clear hb); (try clear hb2); (try clear hk); (try clear hi)))
            have n0_ := Aside0.mk (Kd.R_drew HO_4.out)
            have n1_ := Aside0.mk (blk_drew BK274.out)
            have n2_ := Aside0.mk (below_drew1 HB.out)
            clear HO_4
            clear BK274
            clear HB
            have HO_4 := n0_
            have BK274 := n1_
            have HB := n2_
            clear n0_ n1_ n2_
            have p285 : 0 ≤ (0 : Int) := (by omega)
            have q285 : 0 < (t275.length : Int) := of_decide_eq_true (by first | (with_reducible assumption) | assumption)
            obtain ⟨ad285, e285, hx285_0⟩ := Kd.at_string (Kd.R_reads' HO_4.out).2.2 0 p285 q285
            obtain rfl : ad279 = ad285 := (by injection e285)
            have qi285 : (0 < t275.length) = True := eq_true (by omega)
            (try rw [show ((0 : Int)).toNat = 0 from rfl] at hx285_0)
            (try rw [Addr.add_zero'] at hx285_0)
            replace p285 := eq_true p285
            replace q285 := eq_true q285
            have p286 : 0 ≤ (3 : Int) := (by omega)
            have q286 : 3 < (t275.length : Int) := of_decide_eq_true (by first | (with_reducible assumption) | assumption)
            obtain ⟨ad286, e286, hx286_0⟩ := Kd.at_string (Kd.R_reads' HO_4.out).2.2 3 p286 q286
            obtain rfl : ad279 = ad286 := (by injection e286)
            (try simp only [show (3 : Int).toNat = 3 from rfl, Nat.reduceMul, Nat.reduceEqDiff, Go.Addr.add, ↓reduceIte] at hx286_0)
            have qi286 : (3 < t275.length) = True := eq_true (by omega)
            (try rw [show ((3 : Int)).toNat = 3 from rfl] at hx286_0)
            replace p286 := eq_true p286
            replace q286 := eq_true q286
            have p287 : 0 ≤ (4 : Int) := (by omega)
            have q287 : 4 < (t275.length : Int) := of_decide_eq_true (by first | (with_reducible assumption) | assumption)
            obtain ⟨ad287, e287, hx287_0⟩ := Kd.at_string (Kd.R_reads' HO_4.out).2.2 4 p287 q287
            obtain rfl : ad279 = ad287 := (by injection e287)
            (try simp only [show (4 : Int).toNat = 4 from rfl, Nat.reduceMul, Nat.reduceEqDiff, Go.Addr.add, ↓reduceIte] at hx287_0)
            have qi287 : (4 < t275.length) = True := eq_true (by omega)
            (try rw [show ((4 : Int)).toNat = 4 from rfl] at hx287_0)
            replace p287 := eq_true p287
            replace q287 := eq_true q287
            refine start_ (n := 16) (S := fun w' => w'.cell? ad279 = some (.string (rdOf ByteArray.empty t275 0)) ∧ w'.cell? ⟨ad279.block, ad279.off + 3, none⟩ = some (.string (rdOf ByteArray.empty t275 3)) ∧ w'.cell? ⟨ad279.block, ad279.off + 4, none⟩ = some (.string (rdOf ByteArray.empty t275 4))) (ds := []) #[false, false, false, false, false, false, false, false, false, false, false, false, false, false, false, false] (by kernel_rfl) rfl rfl ⟨hx285_0, hx286_0, hx287_0⟩ (fun hHeld => ?_); refine with_tabW fresh_Take.tab6 fresh_Take.bits6 (fun HT_ HW_ => ?_)
            generalize w24.drew = w25 at HO_4 BK274 HB hx285_0 hx286_0 hx287_0 hHeld ⊢
            refine pure_ (i := 0) (N := some 38) (v := ?_) (a' := ?_) #[true, false, false, false, false, false, false, false, false, false, false, false, false, false, false, false] rfl rfl (any_of HT_.out (by kernel_rfl)) (fun _ _ _ h => h) (Or.inl ⟨by rfl, ?_⟩) ?_ ?_
            rotate_left
            ·intro w'
             go_simp
             with_reducible rfl
            rotate_left
            ·simp only [Act.put, List.setIfInBounds_toArray, List.set_cons_zero, List.set_cons_succ, i64_w, i32_w]
             rfl
            refine pure_ (i := 1) (N := some 39) (v := ?_) (a' := ?_) #[true, true, false, false, false, false, false, false, false, false, false, false, false, false, false, false] rfl rfl (any_of HT_.out (by kernel_rfl)) (fun _ _ _ h => h) (Or.inl ⟨by rfl, ?_⟩) ?_ ?_
            rotate_left
            ·intro w'
             go_simp
             with_reducible rfl
            rotate_left
            ·simp only [Act.put, List.setIfInBounds_toArray, List.set_cons_zero, List.set_cons_succ, i64_w, i32_w]
             rfl
            refine pure_ (i := 3) (N := some 41) (v := ?_) (a' := ?_) #[true, true, false, true, false, false, false, false, false, false, false, false, false, false, false, false] rfl rfl (any_of HT_.out (by kernel_rfl)) (fun _ _ _ h => h) (Or.inl ⟨by rfl, ?_⟩) ?_ ?_
            rotate_left
            ·intro w'
             go_simp
             with_reducible rfl
            rotate_left
            ·simp only [Act.put, List.setIfInBounds_toArray, List.set_cons_zero, List.set_cons_succ, i64_w, i32_w]
             rfl
            refine pure_ (i := 4) (N := some 42) (v := ?_) (a' := ?_) #[true, true, false, true, true, false, false, false, false, false, false, false, false, false, false, false] rfl rfl (any_of HT_.out (by kernel_rfl)) (fun _ _ _ h => h) (Or.inl ⟨by rfl, ?_⟩) ?_ ?_
            rotate_left
            ·intro w'
             go_simp
             with_reducible rfl
            rotate_left
            ·simp only [Act.put, List.setIfInBounds_toArray, List.set_cons_zero, List.set_cons_succ, i64_w, i32_w]
             rfl
            refine pure_ (i := 5) (N := some 43) (v := ?_) (a' := ?_) #[true, true, false, true, true, true, false, false, false, false, false, false, false, false, false, false] rfl rfl (any_of HT_.out (by kernel_rfl)) (fun _ _ _ h => h) (Or.inl ⟨by rfl, ?_⟩) ?_ ?_
            rotate_left
            ·intro w'
             go_simp
             with_reducible rfl
            rotate_left
            ·simp only [Act.put, List.setIfInBounds_toArray, List.set_cons_zero, List.set_cons_succ, i64_w, i32_w]
             rfl
            refine pure_ (i := 6) (N := some 44) (v := ?_) (a' := ?_) #[true, true, false, true, true, true, true, false, false, false, false, false, false, false, false, false] rfl rfl (any_of HT_.out (by kernel_rfl)) (fun _ _ _ h => h) (Or.inl ⟨by rfl, ?_⟩) ?_ ?_
            rotate_left
            ·intro w'
             go_simp
             with_reducible rfl
            rotate_left
            ·simp only [Act.put, List.setIfInBounds_toArray, List.set_cons_zero, List.set_cons_succ, i64_w, i32_w]
             rfl
            refine pure_ (i := 7) (N := some 45) (v := ?_) (a' := ?_) #[true, true, false, true, true, true, true, true, false, false, false, false, false, false, false, false] rfl rfl (any_of HT_.out (by kernel_rfl)) (fun _ _ _ h => h) (Or.inl ⟨by rfl, ?_⟩) ?_ ?_
            rotate_left
            ·intro w'
             go_simp
             with_reducible rfl
            rotate_left
            ·simp only [Act.put, List.setIfInBounds_toArray, List.set_cons_zero, List.set_cons_succ, i64_w, i32_w]
             rfl
            refine pure_ (i := 8) (N := some 46) (v := ?_) (a' := ?_) #[true, true, false, true, true, true, true, true, true, false, false, false, false, false, false, false] rfl rfl (any_of HT_.out (by kernel_rfl)) (fun _ _ _ h => h) (Or.inl ⟨by rfl, ?_⟩) ?_ ?_
            rotate_left
            ·intro w'
             go_simp
             with_reducible rfl
            rotate_left
            ·simp only [Act.put, List.setIfInBounds_toArray, List.set_cons_zero, List.set_cons_succ, i64_w, i32_w]
             rfl
            refine pure_ (i := 10) (N := some 48) (v := ?_) (a' := ?_) #[true, true, false, true, true, true, true, true, true, false, true, false, false, false, false, false] rfl rfl (any_of HT_.out (by kernel_rfl)) (fun _ _ _ h => h) (Or.inl ⟨by rfl, ?_⟩) ?_ ?_
            rotate_left
            ·intro w'
             go_simp
             with_reducible rfl
            rotate_left
            ·simp only [Act.put, List.setIfInBounds_toArray, List.set_cons_zero, List.set_cons_succ, i64_w, i32_w]
             rfl
            refine pure_ (i := 11) (N := some 49) (v := ?_) (a' := ?_) #[true, true, false, true, true, true, true, true, true, false, true, true, false, false, false, false] rfl rfl (any_of HT_.out (by kernel_rfl)) (fun _ _ _ h => h) (Or.inl ⟨by rfl, ?_⟩) ?_ ?_
            rotate_left
            ·intro w'
             go_simp
             with_reducible rfl
            rotate_left
            ·simp only [Act.put, List.setIfInBounds_toArray, List.set_cons_zero, List.set_cons_succ, i64_w, i32_w]
             rfl
            refine take_ (i := 2) (N := some 40) (v := ?_) (a' := ?_) #[true, true, true, true, true, true, true, true, true, false, true, true, false, false, false, false] rfl rfl (take_ofW HT_.out HW_.out (by kernel_rfl)) (fun _ _ _ h => h) (Or.inl ⟨by rfl, ?_⟩) hHeld ?_ ?_
            rotate_left
            ·rintro w' ⟨s0, s1, s2⟩
             go_simp
             with_reducible rfl
            rotate_left
            ·simp only [Act.put, List.setIfInBounds_toArray, List.set_cons_zero, List.set_cons_succ, i64_w, i32_w]
             rfl
            refine take_ (i := 9) (N := some 47) (v := ?_) (a' := ?_) #[true, true, true, true, true, true, true, true, true, true, true, true, false, false, false, false] rfl rfl (take_ofW HT_.out HW_.out (by kernel_rfl)) (fun _ _ _ h => h) (Or.inl ⟨by rfl, ?_⟩) hHeld ?_ ?_
            rotate_left
            ·rintro w' ⟨s0, s1, s2⟩
             go_simp
             with_reducible rfl
            rotate_left
            ·simp only [Act.put, List.setIfInBounds_toArray, List.set_cons_zero, List.set_cons_succ, i64_w, i32_w]
             rfl
            refine take_ (i := 12) (N := some 50) (v := ?_) (a' := ?_) #[true, true, true, true, true, true, true, true, true, true, true, true, true, false, false, false] rfl rfl (take_ofW HT_.out HW_.out (by kernel_rfl)) (fun _ _ _ h => h) (Or.inl ⟨by rfl, ?_⟩) hHeld ?_ ?_
            rotate_left
            ·rintro w' ⟨s0, s1, s2⟩
             go_simp
             with_reducible rfl
            rotate_left
            ·simp only [Act.put, List.setIfInBounds_toArray, List.set_cons_zero, List.set_cons_succ, i64_w, i32_w]
             rfl
            refine pure_ (i := 13) (N := some 51) (v := ?_) (a' := ?_) #[true, true, true, true, true, true, true, true, true, true, true, true, true, true, false, false] rfl rfl (any_of HT_.out (by kernel_rfl)) (fun _ _ _ h => h) (Or.inl ⟨by rfl, ?_⟩) ?_ ?_
            rotate_left
            ·intro w'
             go_simp
             with_reducible rfl
            rotate_left
            ·simp only [Act.put, List.setIfInBounds_toArray, List.set_cons_zero, List.set_cons_succ, i64_w, i32_w]
             rfl
            refine one_ (i := 14) (N := some 10) #[true, true, true, true, true, true, true, true, true, true, true, true, true, true, true, false] rfl rfl (one_of HT_.out (by kernel_rfl)) (by decide) (fun K hK => ?_)
            refine box_step ?hg (N := 10) ?hd (cs := #[.string (⟨#[]⟩ : ByteArray), .int .u64 0, .int .i64 0, .string (⟨#[]⟩ : ByteArray), .string (⟨#[]⟩ : ByteArray)]) (t := 28) ?hr ?_; (case hd => rfl); (case hg => rfl); (case hr => first | (go_simp; done) | (go_simp; rfl))
            intro gb288 hg w26 hbox hb
            have HS0_ := (hb.cell (World.block_lt_of_cell? _ _ (hHeld.1))).trans (hHeld.1)
            have HS1_ := (hb.cell (World.block_lt_of_cell? _ _ (hHeld.2.1))).trans (hHeld.2.1)
            have HS2_ := (hb.cell (World.block_lt_of_cell? _ _ (hHeld.2.2))).trans (hHeld.2.2)
            have n0_ := Aside0.mk (Kd.R_below (by (with_reducible repeat (first | apply Kd.R_alloc | apply Kd.R_drewN | apply Kd.R_drew)); exact HO_4.out) hb)
            have n1_ := Aside0.mk (blk_below (g := gb274) (o := .cells #[.string (⟨#[]⟩ : ByteArray), .int .u64 0, .int .i64 0, .string (⟨#[]⟩ : ByteArray), .string (⟨#[]⟩ : ByteArray)] 28 (0, 0)) (by (with_reducible repeat (first | refine blk_drewN ?_ _ | refine blk_drew ?_ | refine blk_alloc ?_ _)); exact BK274.out) hb)
            have n2_ := Aside0.mk (below_step (by repeat (first | (with_reducible first | exact HB.out | apply below_alloc | apply pw_below_drewN | apply below_drew1 | refine below_set ?_ GE274.out) | exact HB.out)) hb)
            have n3_ := Aside0.mk (hbox)
            have n4_ := Aside0.mk ((by rw [hg]; exact (below_size (by repeat (first | (with_reducible first | exact HB.out | apply below_alloc | apply pw_below_drewN | apply below_drew1 | refine below_set ?_ GE274.out) | exact HB.out))) : w.heap.size ≤ gb288))
            have n5_ := Aside0.mk ((by rw [hg]; exact (below_size (by repeat (first | (with_reducible first | exact HB.out | apply below_alloc | apply pw_below_drewN | apply below_drew1 | refine below_set ?_ GE274.out) | exact HB.out))) : w.heap.size ≤ gb288))
            have n6_ := Aside0.mk ((by rw [hg]; exact Nat.ne_of_lt (blk_lt (g := gb274) (o := .cells #[.string (⟨#[]⟩ : ByteArray), .int .u64 0, .int .i64 0, .string (⟨#[]⟩ : ByteArray), .string (⟨#[]⟩ : ByteArray)] 28 (0, 0)) (by (with_reducible repeat (first | refine blk_drewN ?_ _ | refine blk_drew ?_ | refine blk_alloc ?_ _)); exact BK274.out)) : gb274 ≠ gb288))
            have n7_ := Aside0.mk ((by rw [hg]; exact Nat.ne_of_gt (blk_lt (g := gb274) (o := .cells #[.string (⟨#[]⟩ : ByteArray), .int .u64 0, .int .i64 0, .string (⟨#[]⟩ : ByteArray), .string (⟨#[]⟩ : ByteArray)] 28 (0, 0)) (by (with_reducible repeat (first | refine blk_drewN ?_ _ | refine blk_drew ?_ | refine blk_alloc ?_ _)); exact BK274.out)) : gb288 ≠ gb274))
            clear HO_4
            clear BK274
            clear HB
            have HO_4 := n0_
            have BK274 := n1_
            have HB := n2_
            have BK288 := n3_
            have GW288 := n4_
            have GE288 := n5_
            have NB274_288 := n6_
            have NB288_274 := n7_
            clear n0_ n1_ n2_ n3_ n4_ n5_ n6_ n7_
            clear hb hbox hg
            refine hK.out _ _ ⟨HS0_, HS1_, HS2_⟩ (fun hHeld => ?_)
            clear hK K
            refine norm_ (a' := ?_) ?_ ?_
            rotate_left
            ·show Act.put _ (some 10) _ = _
             simp only [Act.put, List.setIfInBounds_toArray, List.set_cons_zero, List.set_cons_succ, i64_w, i32_w]
             rfl
            refine one_ (i := 15) (N := none) #[true, true, true, true, true, true, true, true, true, true, true, true, true, true, true, true] rfl rfl (one_of HT_.out (by kernel_rfl)) (by decide) (fun K hK => ?_)
            have hs27 : w26.cell? ⟨gb288, 0, none⟩ = some (.string (⟨#[]⟩ : ByteArray)) := (blk_cell BK288.out 0).trans rfl
            have hfs27 := blk_frozen BK288.out 0
            have hns27_0 := NB274_288.out
            have hms27_0 := NB288_274.out
            have hs28 : w26.cell? ⟨gb288, 1, none⟩ = some (.int .u64 0) := (blk_cell BK288.out 1).trans rfl
            have hfs28 := blk_frozen BK288.out 1
            have hns28_0 := NB274_288.out
            have hms28_0 := NB288_274.out
            have hs29 : w26.cell? ⟨gb288, 2, none⟩ = some (.int .i64 0) := (blk_cell BK288.out 2).trans rfl
            have hfs29 := blk_frozen BK288.out 2
            have hns29_0 := NB274_288.out
            have hms29_0 := NB288_274.out
            have hs30 : w26.cell? ⟨gb288, 3, none⟩ = some (.string (⟨#[]⟩ : ByteArray)) := (blk_cell BK288.out 3).trans rfl
            have hfs30 := blk_frozen BK288.out 3
            have hns30_0 := NB274_288.out
            have hms30_0 := NB288_274.out
            have hs31 : w26.cell? ⟨gb288, 4, none⟩ = some (.string (⟨#[]⟩ : ByteArray)) := (blk_cell BK288.out 4).trans rfl
            have hfs31 := blk_frozen BK288.out 4
            have hns31_0 := NB274_288.out
            have hms31_0 := NB288_274.out
            refine skip_ (w1 := ?_) (by rfl) rfl ?_ ?_
            rotate_left
            ·refine' fresh_Take.store5 _ _ _ _ ?ho_ _ gb288 _ _ _ _ _ ?hp_ ?hv_ BK288.out
             case ho_ => rfl
             case hp_ => rfl
             case hv_ => rfl
            have hne_ : ad279.block ≠ gb288 := Kd.own_blk (Kd.R_ne HO_4.out BK288.out (by decide))
            refine hK.out _ _ ⟨(fresh_Take.far5 hne_ _ _ _ _ _).trans hHeld.1, (fresh_Take.far5 (a := ⟨ad279.block, _, none⟩) hne_ _ _ _ _ _).trans hHeld.2.1, (fresh_Take.far5 (a := ⟨ad279.block, _, none⟩) hne_ _ _ _ _ _).trans hHeld.2.2⟩ (fun hHeld => ?_)
            clear hne_
            clear hK K
            refine done_ (done_of HT_.out (by kernel_rfl)) ?_
            have q0_ : (((((w26.setCell ⟨gb288, 0, none⟩ (.string (rdOf ByteArray.empty t275 0))).setCell ⟨gb288, 1, none⟩ (.int .u64 t280)).setCell ⟨gb288, 2, none⟩ (.int .i64 (wrap64 (ji15)))).setCell ⟨gb288, 3, none⟩ (.string (rdOf ByteArray.empty t275 3))).setCell ⟨gb288, 4, none⟩ (.string (rdOf ByteArray.empty t275 4))).heap[gb288]? = some (.cells #[.string (rdOf ByteArray.empty t275 0), .int .u64 t280, .int .i64 (wrap64 (ji15)), .string (rdOf ByteArray.empty t275 3), .string (rdOf ByteArray.empty t275 4)] 28 (0, 0)) := (blk_put (blk_put (blk_put (blk_put (blk_put BK288.out 0 (.string (rdOf ByteArray.empty t275 0)) rfl) 1 (.int .u64 t280) rfl) 2 (.int .i64 (wrap64 (ji15))) rfl) 3 (.string (rdOf ByteArray.empty t275 3)) rfl) 4 (.string (rdOf ByteArray.empty t275 4)) rfl)
            have q1_ : (((((w26.setCell ⟨gb288, 0, none⟩ (.string (rdOf ByteArray.empty t275 0))).setCell ⟨gb288, 1, none⟩ (.int .u64 t280)).setCell ⟨gb288, 2, none⟩ (.int .i64 (wrap64 (ji15)))).setCell ⟨gb288, 3, none⟩ (.string (rdOf ByteArray.empty t275 3))).setCell ⟨gb288, 4, none⟩ (.string (rdOf ByteArray.empty t275 4))).heap[gb274]? = some (.cells #[.string (⟨#[]⟩ : ByteArray), .int .u64 0, .int .i64 0, .string (⟨#[]⟩ : ByteArray), .string (⟨#[]⟩ : ByteArray)] 28 (0, 0)) := (blk_far (blk_far (blk_far (blk_far (blk_far BK274.out NB274_288.out (.string (rdOf ByteArray.empty t275 0))) NB274_288.out (.int .u64 t280)) NB274_288.out (.int .i64 (wrap64 (ji15)))) NB274_288.out (.string (rdOf ByteArray.empty t275 3))) NB274_288.out (.string (rdOf ByteArray.empty t275 4)))
            have q2_ : Below w.heap.size w (((((w26.setCell ⟨gb288, 0, none⟩ (.string (rdOf ByteArray.empty t275 0))).setCell ⟨gb288, 1, none⟩ (.int .u64 t280)).setCell ⟨gb288, 2, none⟩ (.int .i64 (wrap64 (ji15)))).setCell ⟨gb288, 3, none⟩ (.string (rdOf ByteArray.empty t275 3))).setCell ⟨gb288, 4, none⟩ (.string (rdOf ByteArray.empty t275 4))) := (below_set (below_set (below_set (below_set (below_set HB.out GE288.out) GE288.out) GE288.out) GE288.out) GE288.out)
            have q3_ := Kd.R_mono (Kd.R_far (p := ⟨gb288, 4, none⟩) (Kd.R_far (p := ⟨gb288, 3, none⟩) (Kd.R_far (p := ⟨gb288, 2, none⟩) (Kd.R_far (p := ⟨gb288, 1, none⟩) (Kd.R_far (p := ⟨gb288, 0, none⟩) (Kd.R_types HO_4.out BK288.out (by decide)) (fun _ hk => hk.2) (.string (rdOf ByteArray.empty t275 0))) (fun _ hk => hk.2) (.int .u64 t280)) (fun _ hk => hk.2) (.int .i64 (wrap64 (ji15)))) (fun _ hk => hk.2) (.string (rdOf ByteArray.empty t275 3))) (fun _ hk => hk.2) (.string (rdOf ByteArray.empty t275 4))) (fun _ h_ => h_.1)
            clear HO_4 BK288 BK274 HB hHeld
            have HO_4 := Aside0.mk q3_
            have BK274 := Aside0.mk q1_
            have BK288 := Aside0.mk q0_
            have HB := Aside0.mk q2_
            clear q0_ q1_ q2_ q3_
            (try clear HS0_)
            (try clear HS1_)
            (try clear HS2_)
            generalize (((((w26.setCell ⟨gb288, 0, none⟩ (.string (rdOf ByteArray.empty t275 0))).setCell ⟨gb288, 1, none⟩ (.int .u64 t280)).setCell ⟨gb288, 2, none⟩ (.int .i64 (wrap64 (ji15)))).setCell ⟨gb288, 3, none⟩ (.string (rdOf ByteArray.empty t275 3))).setCell ⟨gb288, 4, none⟩ (.string (rdOf ByteArray.empty t275 4))) = w26 at HO_4 BK274 BK288 HB ⊢
            have hnb32 := NB288_274.out
            have hnc32 := NB274_288.out
            have hcz33_0 : w26.cell? ⟨gb288, 0, none⟩ = some (.string (rdOf ByteArray.empty t275 0)) := (blk_cell BK288.out 0).trans rfl
            have hcz33_1 : w26.cell? ⟨gb288, 1, none⟩ = some (.int .u64 t280) := (blk_cell BK288.out 1).trans rfl
            have hcz33_2 : w26.cell? ⟨gb288, 2, none⟩ = some (.int .i64 (wrap64 (ji15))) := (blk_cell BK288.out 2).trans rfl
            have hcz33_3 : w26.cell? ⟨gb288, 3, none⟩ = some (.string (rdOf ByteArray.empty t275 3)) := (blk_cell BK288.out 3).trans rfl
            have hcz33_4 : w26.cell? ⟨gb288, 4, none⟩ = some (.string (rdOf ByteArray.empty t275 4)) := (blk_cell BK288.out 4).trans rfl
            have hfz33_0 := blk_frozen BK288.out 0
            have hfz33_1 := blk_frozen BK288.out 1
            have hfz33_2 := blk_frozen BK288.out 2
            have hfz33_3 := blk_frozen BK288.out 3
            have hfz33_4 := blk_frozen BK288.out 4
            try go_wp2_with (first | (go_at_call 31; (with_reducible refine (fresh_Right.calls kj2 (rdOf ByteArray.empty t275 0) t280 (wrap64 (ji15)) (rdOf ByteArray.empty t275 3) (rdOf ByteArray.empty t275 4) true _ A20.out ?sidev).mono ?_); (case sidev => exact Laid8.below HV.out (by repeat (first | (with_reducible first | exact HB.out | apply below_alloc | apply pw_below_drewN | apply below_drew1 | refine below_set ?_ GE274.out | refine below_set ?_ GE288.out) | exact HB.out))); rintro e w34 ⟨rfl, hb⟩; have n0_ := Aside0.mk (Kd.R_below (by (with_reducible repeat (first | apply Kd.R_alloc | apply Kd.R_drewN | apply Kd.R_drew)); exact HO_4.out) hb); have n1_ := Aside0.mk (blk_below (g := gb274) (o := .cells #[.string (⟨#[]⟩ : ByteArray), .int .u64 0, .int .i64 0, .string (⟨#[]⟩ : ByteArray), .string (⟨#[]⟩ : ByteArray)] 28 (0, 0)) (by (with_reducible repeat (first | refine blk_drewN ?_ _ | refine blk_drew ?_ | refine blk_alloc ?_ _)); exact BK274.out) hb); have n2_ := Aside0.mk (blk_below (g := gb288) (o := .cells #[.string (rdOf ByteArray.empty t275 0), .int .u64 t280, .int .i64 (wrap64 (ji15)), .string (rdOf ByteArray.empty t275 3), .string (rdOf ByteArray.empty t275 4)] 28 (0, 0)) (by (with_reducible repeat (first | refine blk_drewN ?_ _ | refine blk_drew ?_ | refine blk_alloc ?_ _)); exact BK288.out) hb); have n3_ := Aside0.mk (below_step (by repeat (first | (with_reducible first | exact HB.out | apply below_alloc | apply pw_below_drewN | apply below_drew1 | refine below_set ?_ GE274.out | refine below_set ?_ GE288.out) | exact HB.out)) hb); clear HO_4; clear BK274; clear BK288; clear HB; have HO_4 := n0_; have BK274 := n1_; have BK288 := n2_; have HB := n3_; clear n0_ n1_ n2_ n3_; (try clear hb); (try clear hb2); (try clear hk); (try clear hi); have hcz35_0 : w34.cell? ⟨gb288, 0, none⟩ = some (.string (rdOf ByteArray.empty t275 0)) := (blk_cell BK288.out 0).trans rfl; have hcz35_1 : w34.cell? ⟨gb288, 1, none⟩ = some (.int .u64 t280) := (blk_cell BK288.out 1).trans rfl; have hcz35_2 : w34.cell? ⟨gb288, 2, none⟩ = some (.int .i64 (wrap64 (ji15))) := (blk_cell BK288.out 2).trans rfl; have hcz35_3 : w34.cell? ⟨gb288, 3, none⟩ = some (.string (rdOf ByteArray.empty t275 3)) := (blk_cell BK288.out 3).trans rfl; have hcz35_4 : w34.cell? ⟨gb288, 4, none⟩ = some (.string (rdOf ByteArray.empty t275 4)) := (blk_cell BK288.out 4).trans rfl; have hfz35_0 := blk_frozen BK288.out 0; have hfz35_1 := blk_frozen BK288.out 1; have hfz35_2 := blk_frozen BK288.out 2; have hfz35_3 := blk_frozen BK288.out 3; have hfz35_4 := blk_frozen BK288.out 4; have hcz36_0 : w34.cell? ⟨gb274, 0, none⟩ = some (.string (⟨#[]⟩ : ByteArray)) := (blk_cell BK274.out 0).trans rfl; have hcz36_1 : w34.cell? ⟨gb274, 1, none⟩ = some (.int .u64 0) := (blk_cell BK274.out 1).trans rfl; have hcz36_2 : w34.cell? ⟨gb274, 2, none⟩ = some (.int .i64 0) := (blk_cell BK274.out 2).trans rfl; have hcz36_3 : w34.cell? ⟨gb274, 3, none⟩ = some (.string (⟨#[]⟩ : ByteArray)) := (blk_cell BK274.out 3).trans rfl; have hcz36_4 : w34.cell? ⟨gb274, 4, none⟩ = some (.string (⟨#[]⟩ : ByteArray)) := (blk_cell BK274.out 4).trans rfl; have hfz36_0 := blk_frozen BK274.out 0; have hfz36_1 := blk_frozen BK274.out 1; have hfz36_2 := blk_frozen BK274.out 2; have hfz36_3 := blk_frozen BK274.out 3; have hfz36_4 := blk_frozen BK274.out 4))
            refine bodyPost_ret (results_ct rfl _ _ gb274 28 #[.string (rdOf ByteArray.empty t275 0), .int .u64 t280, .int .i64 (wrap64 (ji15)), .string (rdOf ByteArray.empty t275 3), .string (rdOf ByteArray.empty t275 4)] (0, 0) _ rfl (by (with_reducible repeat (first | refine blk_drewN ?_ _ | refine blk_drew ?_ | refine blk_alloc ?_ _)); refine blk_put (cs := #[.string (rdOf ByteArray.empty t275 0), .int .u64 t280, .int .i64 (wrap64 (ji15)), .string (rdOf ByteArray.empty t275 3), .string (⟨#[]⟩ : ByteArray)]) ?_ 4 _ rfl; (with_reducible repeat (first | refine blk_drewN ?_ _ | refine blk_drew ?_ | refine blk_alloc ?_ _)); refine blk_put (cs := #[.string (rdOf ByteArray.empty t275 0), .int .u64 t280, .int .i64 (wrap64 (ji15)), .string (⟨#[]⟩ : ByteArray), .string (⟨#[]⟩ : ByteArray)]) ?_ 3 _ rfl; (with_reducible repeat (first | refine blk_drewN ?_ _ | refine blk_drew ?_ | refine blk_alloc ?_ _)); refine blk_put (cs := #[.string (rdOf ByteArray.empty t275 0), .int .u64 t280, .int .i64 0, .string (⟨#[]⟩ : ByteArray), .string (⟨#[]⟩ : ByteArray)]) ?_ 2 _ rfl; (with_reducible repeat (first | refine blk_drewN ?_ _ | refine blk_drew ?_ | refine blk_alloc ?_ _)); refine blk_put (cs := #[.string (rdOf ByteArray.empty t275 0), .int .u64 0, .int .i64 0, .string (⟨#[]⟩ : ByteArray), .string (⟨#[]⟩ : ByteArray)]) ?_ 1 _ rfl; (with_reducible repeat (first | refine blk_drewN ?_ _ | refine blk_drew ?_ | refine blk_alloc ?_ _)); refine blk_put (cs := #[.string (⟨#[]⟩ : ByteArray), .int .u64 0, .int .i64 0, .string (⟨#[]⟩ : ByteArray), .string (⟨#[]⟩ : ByteArray)]) ?_ 0 _ rfl; (with_reducible repeat (first | refine blk_drewN ?_ _ | refine blk_drew ?_ | refine blk_alloc ?_ _)); exact BK274.out) Tryd.underlying28 rfl (by kernel_rfl)) rfl ?_
            exact ⟨by first | rfl | (simp [errW_none, errW_some] <;> rfl) | (simp only [← hji15]; first | rfl | (simp [errW_none, errW_some] <;> rfl)) | (simp [*, errW_none, errW_some] <;> rfl), by repeat (first | (with_reducible first | exact HB.out | apply below_alloc | apply pw_below_drewN | apply below_drew1 | refine below_set ?_ GE274.out | refine below_set ?_ GE288.out) | exact HB.out)⟩
           ·replace c21 := Bool.eq_false_iff.mpr c21
            subst c21
            have H1 : (none) = some (r1, r2, r3, r4, r5, r6) := by rw [if_neg (show ¬ (false = true) by decide)] at H; exact H
            clear H
            have H := H1
            clear H1
            exact absurd H (by simp)
          ·replace c19 := Bool.eq_false_iff.mpr c19
           subst c19
           have H1 : (none) = some (r1, r2, r3, r4, r5, r6) := by rw [if_neg (show ¬ (false = true) by decide)] at H; exact H
           clear H
           have H := H1
           clear H1
           exact absurd H (by simp)
         ·replace c18 := Bool.eq_false_iff.mpr c18
          subst c18
          have H1 : (none) = some (r1, r2, r3, r4, r5, r6) := by rw [if_neg (show ¬ (false = true) by decide)] at H; exact H
          clear H
          have H := H1
          clear H1
          exact absurd H (by simp)
        ·rw [if_neg c17] at H
         exact absurd H (by simp)
       ·rw [if_neg c16] at H
        exact absurd H (by simp)
      ·rw [if_neg c14] at H
       exact absurd H (by simp)
     ·rw [if_neg c12] at H
      exact absurd H (by simp)
    ·rw [if_neg c10] at H
     exact absurd H (by simp)
def fresh_Put.f (k : Nat) (a0_0 : ByteArray) (a0_1 : Int) (a0_2 : Int) (a0_3 : ByteArray) (a0_4 : ByteArray) : Option (ByteArray × Int) := (fresh_Right.f k a0_0 a0_1 a0_2 a0_3 a0_4).bind fun t337 => (if t337 = true then ((wire_Put.f k a0_1).bind fun t338 => ((wire_Put.f k (IntKind.u64.wrap (a0_2))).bind fun t339 => ((wire_PutAll.f k (([a0_0, t338, t339, a0_3, a0_4] : List ByteArray))).bind fun t343 => (some (t343, 0))))) else (some ((⟨#[]⟩ : ByteArray), 1)))
def fresh_Put.T3 : Bool × List (List Nat × List Nat) := (true, [([], []), ([0], [0]), ([], []), ([2], [2]), ([3], [3]), ([], []), ([5], [5]), ([6], [6]), ([7, 4], [7]), ([], []), ([9], [9]), ([], []), ([11], [11]), ([1, 4, 8, 10, 12], [1, 4, 8, 10, 12]), ([13, 8], [13]), ([14, 14, 0, 1, 2, 3, 4, 5, 6, 7, 8, 9, 10, 11, 12, 13, 14], [14]), ([15, 0, 1, 2, 3, 4, 5, 6, 7, 8, 9, 10, 11, 12, 13, 14, 15], [])])
def fresh_Put.B3 : List Nat := [0, 1, 0, 4, 12, 0, 32, 96, 252, 0, 512, 0, 2048, 8191, 16383, 32767, 65535]
theorem fresh_Put.tab3 : rtab .any (opsOf Tryd.f19 3) = fresh_Put.T3 := by kernel_rfl
theorem fresh_Put.bits3 : waitsOk fresh_Put.T3.2 fresh_Put.B3 = true := by kernel_rfl
set_option maxHeartbeats 8000000 in
set_option maxRecDepth 100000 in
theorem fresh_Put.calls (k : Nat) (a0_0 : ByteArray) (a0_1 : Int) (a0_2 : Int) (a0_3 : ByteArray) (a0_4 : ByteArray) (r1 : ByteArray) (r2 : Int) (w : World) (h : fresh_Put.f k a0_0 a0_1 a0_2 a0_3 a0_4 = some (r1, r2)) (hV : Laid8 w) :
  Calls Tryd.prog 19 #[.agg #[.string a0_0, .int .u64 a0_1, .int .i64 a0_2, .string a0_3, .string a0_4]] w fun e w' => e = .returned (.tuple #[.string r1, .int .i64 r2]) ∧ Below w.heap.size w w' := by
 have HV := Aside0.mk hV
 clear hV
 have hu28 := Tryd.underlying28
 have HB := Aside0.mk (Below.refl w.heap.size w)
 have H : ((fresh_Right.f k a0_0 a0_1 a0_2 a0_3 a0_4).bind fun t337 => (if t337 = true then ((wire_Put.f k a0_1).bind fun t338 => ((wire_Put.f k (IntKind.u64.wrap (a0_2))).bind fun t339 => ((wire_PutAll.f k (([a0_0, t338, t339, a0_3, a0_4] : List ByteArray))).bind fun t343 => (some (t343, 0))))) else (some ((⟨#[]⟩ : ByteArray), 1)))) = some (r1, r2) := h
 clear h
 replace H := Option.bind_eq_some_iff.mp H
 obtain ⟨t337, A20, H⟩ := H
 replace H : (if t337 = true then ((wire_Put.f k a0_1).bind fun t338 => ((wire_Put.f k (IntKind.u64.wrap (a0_2))).bind fun t339 => ((wire_PutAll.f k (([a0_0, t338, t339, a0_3, a0_4] : List ByteArray))).bind fun t343 => (some (t343, 0))))) else (some ((⟨#[]⟩ : ByteArray), 1))) = some (r1, r2) := H
 have A2 := Aside0.mk A20
 clear A20
 by_cases c3 : t337 = true
 ·subst c3
  have H1 : ((wire_Put.f k a0_1).bind fun t338 => ((wire_Put.f k (IntKind.u64.wrap (a0_2))).bind fun t339 => ((wire_PutAll.f k (([a0_0, t338, t339, a0_3, a0_4] : List ByteArray))).bind fun t343 => (some (t343, 0))))) = some (r1, r2) := by rw [if_pos rfl] at H; exact H
  clear H
  have H := H1
  clear H1
  replace H := Option.bind_eq_some_iff.mp H
  obtain ⟨t338, A40, H⟩ := H
  replace H : ((wire_Put.f k (IntKind.u64.wrap (a0_2))).bind fun t339 => ((wire_PutAll.f k (([a0_0, t338, t339, a0_3, a0_4] : List ByteArray))).bind fun t343 => (some (t343, 0)))) = some (r1, r2) := H
  have A4 := Aside0.mk A40
  clear A40
  replace H := Option.bind_eq_some_iff.mp H
  obtain ⟨t339, A50, H⟩ := H
  replace H : ((wire_PutAll.f k (([a0_0, t338, t339, a0_3, a0_4] : List ByteArray))).bind fun t343 => (some (t343, 0))) = some (r1, r2) := H
  have A5 := Aside0.mk A50
  clear A50
  obtain ⟨y340, hy340⟩ : ∃ y_ : List ByteArray, y_ = (([a0_0, t338, t339, a0_3, a0_4] : List ByteArray)) := ⟨_, rfl⟩
  replace H : ((wire_PutAll.f k y340).bind fun t343 => (some (t343, 0))) = some (r1, r2) := by first | (rw [hy340]; with_reducible exact H) | (have H2_ := (Option.bind_some _ _).symm.trans H; rw [hy340]; with_reducible exact H2_) | (have H2_ := (Option.bind_some _ _).symm.trans H; with_reducible exact H2_) | with_reducible exact H | (rw [hy340]; exact H) | exact H
  have Ny340 := Aside0.mk hy340
  clear hy340
  replace H := Option.bind_eq_some_iff.mp H
  obtain ⟨t343, A60, H⟩ := H
  replace H : (some (t343, 0)) = some (r1, r2) := H
  have A6 := Aside0.mk A60
  clear A60
  simp only [Option.some.injEq, Prod.mk.injEq] at H
  obtain ⟨rfl, rfl⟩ := H
  go_enter Tryd.func19, Tryd.ntmps19
  try go_wp2_with (first | ((with_reducible refine gate_dst (N := 1) rfl ?_); refine box_event ?hg (N := 1) ?hd (cs := #[.string a0_0, .int .u64 a0_1, .int .i64 a0_2, .string a0_3, .string a0_4]) (t := 28) ?hr ?_; (case hd => rfl); (case hg => rfl); (case hr => first | (go_simp; done) | (go_simp; rfl)); intro gb336 hg w7 hbox hb; have n0_ := Aside0.mk (below_step (by repeat (first | (with_reducible first | exact HB.out | apply below_alloc | apply pw_below_drewN | apply below_drew1) | exact HB.out)) hb); have n1_ := Aside0.mk (hbox); have n2_ := Aside0.mk ((by rw [hg]; exact (below_size (by repeat (first | (with_reducible first | exact HB.out | apply below_alloc | apply pw_below_drewN | apply below_drew1) | exact HB.out))) : w.heap.size ≤ gb336)); have n3_ := Aside0.mk ((by rw [hg]; exact (below_size (by repeat (first | (with_reducible first | exact HB.out | apply below_alloc | apply pw_below_drewN | apply below_drew1) | exact HB.out))) : w.heap.size ≤ gb336)); clear HB; have HB := n0_; have BK336 := n1_; have GW336 := n2_; have GE336 := n3_; clear n0_ n1_ n2_ n3_; clear hb hbox hg; have hcz8_0 : w7.cell? ⟨gb336, 0, none⟩ = some (.string a0_0) := (blk_cell BK336.out 0).trans rfl; have hcz8_1 : w7.cell? ⟨gb336, 1, none⟩ = some (.int .u64 a0_1) := (blk_cell BK336.out 1).trans rfl; have hcz8_2 : w7.cell? ⟨gb336, 2, none⟩ = some (.int .i64 a0_2) := (blk_cell BK336.out 2).trans rfl; have hcz8_3 : w7.cell? ⟨gb336, 3, none⟩ = some (.string a0_3) := (blk_cell BK336.out 3).trans rfl; have hcz8_4 : w7.cell? ⟨gb336, 4, none⟩ = some (.string a0_4) := (blk_cell BK336.out 4).trans rfl; have hfz8_0 := blk_frozen BK336.out 0; have hfz8_1 := blk_frozen BK336.out 1; have hfz8_2 := blk_frozen BK336.out 2; have hfz8_3 := blk_frozen BK336.out 3; have hfz8_4 := blk_frozen BK336.out 4) | ((with_reducible refine gate_callee (f := 31) rfl ?_); refine goesL_ (some 5) rfl rfl Tryd.func31 (by kernel_rfl) rfl #[.agg #[.string a0_0, .int .u64 a0_1, .int .i64 a0_2, .string a0_3, .string a0_4]] rfl (by (try simp only [List.map_toArray, List.map_cons, List.map_nil]); first | done | rfl | (simp only [List.length_drop, List.length_take]; rfl)) ?_; (with_reducible refine (fresh_Right.calls k a0_0 a0_1 a0_2 a0_3 a0_4 true _ A2.out ?sidev).mono ?_); (case sidev => exact Laid8.below HV.out (by repeat (first | (with_reducible first | exact HB.out | apply below_alloc | apply pw_below_drewN | apply below_drew1 | refine below_set ?_ GE336.out) | exact HB.out))); rintro e w9 ⟨rfl, hb⟩; refine ⟨_, rfl, ?_⟩; have n0_ := Aside0.mk (blk_below (g := gb336) (o := .cells #[.string a0_0, .int .u64 a0_1, .int .i64 a0_2, .string a0_3, .string a0_4] 28 (0, 0)) (by (with_reducible repeat (first | refine blk_drewN ?_ _ | refine blk_drew ?_ | refine blk_alloc ?_ _)); exact BK336.out) hb); have n1_ := Aside0.mk (below_step (by repeat (first | (with_reducible first | exact HB.out | apply below_alloc | apply pw_below_drewN | apply below_drew1 | refine below_set ?_ GE336.out) | exact HB.out)) hb); clear BK336; clear HB; have BK336 := n0_; have HB := n1_; clear n0_ n1_; (try clear hb); (try clear hb2); (try clear hk); (try clear hi)))
  have n0_ := Aside0.mk (blk_drew BK336.out)
  have n1_ := Aside0.mk (below_drew1 HB.out)
  clear BK336
  clear HB
  have BK336 := n0_
  have HB := n1_
  clear n0_ n1_
  refine start_ (n := 17) (S := fun w' => w'.cell? ⟨gb336, 0, none⟩ = some (.string a0_0) ∧ w'.cell? ⟨gb336, 1, none⟩ = some (.int .u64 a0_1) ∧ w'.cell? ⟨gb336, 2, none⟩ = some (.int .i64 a0_2) ∧ w'.cell? ⟨gb336, 3, none⟩ = some (.string a0_3) ∧ w'.cell? ⟨gb336, 4, none⟩ = some (.string a0_4)) (ds := []) #[false, false, false, false, false, false, false, false, false, false, false, false, false, false, false, false, false] (by kernel_rfl) rfl rfl ⟨(blk_cell BK336.out 0).trans rfl, (blk_cell BK336.out 1).trans rfl, (blk_cell BK336.out 2).trans rfl, (blk_cell BK336.out 3).trans rfl, (blk_cell BK336.out 4).trans rfl⟩ (fun hHeld => ?_); refine with_tabW fresh_Put.tab3 fresh_Put.bits3 (fun HT_ HW_ => ?_)
  generalize w9.drew = w10 at BK336 HB hHeld ⊢
  refine pure_ (i := 0) (N := some 7) (v := ?_) (a' := ?_) #[true, false, false, false, false, false, false, false, false, false, false, false, false, false, false, false, false] rfl rfl (any_of HT_.out (by kernel_rfl)) (fun _ _ _ h => h) (Or.inl ⟨by rfl, ?_⟩) ?_ ?_
  rotate_left
  ·intro w'
   go_simp
   with_reducible rfl
  rotate_left
  ·simp only [Act.put, List.setIfInBounds_toArray, List.set_cons_zero, List.set_cons_succ, i64_w, i32_w]
   rfl
  refine pure_ (i := 2) (N := some 9) (v := ?_) (a' := ?_) #[true, false, true, false, false, false, false, false, false, false, false, false, false, false, false, false, false] rfl rfl (any_of HT_.out (by kernel_rfl)) (fun _ _ _ h => h) (Or.inl ⟨by rfl, ?_⟩) ?_ ?_
  rotate_left
  ·intro w'
   go_simp
   with_reducible rfl
  rotate_left
  ·simp only [Act.put, List.setIfInBounds_toArray, List.set_cons_zero, List.set_cons_succ, i64_w, i32_w]
   rfl
  refine pure_ (i := 5) (N := some 12) (v := ?_) (a' := ?_) #[true, false, true, false, false, true, false, false, false, false, false, false, false, false, false, false, false] rfl rfl (any_of HT_.out (by kernel_rfl)) (fun _ _ _ h => h) (Or.inl ⟨by rfl, ?_⟩) ?_ ?_
  rotate_left
  ·intro w'
   go_simp
   with_reducible rfl
  rotate_left
  ·simp only [Act.put, List.setIfInBounds_toArray, List.set_cons_zero, List.set_cons_succ, i64_w, i32_w]
   rfl
  refine pure_ (i := 9) (N := some 16) (v := ?_) (a' := ?_) #[true, false, true, false, false, true, false, false, false, true, false, false, false, false, false, false, false] rfl rfl (any_of HT_.out (by kernel_rfl)) (fun _ _ _ h => h) (Or.inl ⟨by rfl, ?_⟩) ?_ ?_
  rotate_left
  ·intro w'
   go_simp
   with_reducible rfl
  rotate_left
  ·simp only [Act.put, List.setIfInBounds_toArray, List.set_cons_zero, List.set_cons_succ, i64_w, i32_w]
   rfl
  refine pure_ (i := 11) (N := some 18) (v := ?_) (a' := ?_) #[true, false, true, false, false, true, false, false, false, true, false, true, false, false, false, false, false] rfl rfl (any_of HT_.out (by kernel_rfl)) (fun _ _ _ h => h) (Or.inl ⟨by rfl, ?_⟩) ?_ ?_
  rotate_left
  ·intro w'
   go_simp
   with_reducible rfl
  rotate_left
  ·simp only [Act.put, List.setIfInBounds_toArray, List.set_cons_zero, List.set_cons_succ, i64_w, i32_w]
   rfl
  refine take_ (i := 1) (N := some 8) (v := ?_) (a' := ?_) #[true, true, true, false, false, true, false, false, false, true, false, true, false, false, false, false, false] rfl rfl (take_ofW HT_.out HW_.out (by kernel_rfl)) (fun _ _ _ h => h) (Or.inl ⟨by rfl, ?_⟩) hHeld ?_ ?_
  rotate_left
  ·rintro w' ⟨s0, s1, s2, s3, s4⟩
   go_simp
   with_reducible rfl
  rotate_left
  ·simp only [Act.put, List.setIfInBounds_toArray, List.set_cons_zero, List.set_cons_succ, i64_w, i32_w]
   rfl
  refine take_ (i := 3) (N := some 10) (v := ?_) (a' := ?_) #[true, true, true, true, false, true, false, false, false, true, false, true, false, false, false, false, false] rfl rfl (take_ofW HT_.out HW_.out (by kernel_rfl)) (fun _ _ _ h => h) (Or.inl ⟨by rfl, ?_⟩) hHeld ?_ ?_
  rotate_left
  ·rintro w' ⟨s0, s1, s2, s3, s4⟩
   go_simp
   with_reducible rfl
  rotate_left
  ·simp only [Act.put, List.setIfInBounds_toArray, List.set_cons_zero, List.set_cons_succ, i64_w, i32_w]
   rfl
  refine take_ (i := 6) (N := some 13) (v := ?_) (a' := ?_) #[true, true, true, true, false, true, true, false, false, true, false, true, false, false, false, false, false] rfl rfl (take_ofW HT_.out HW_.out (by kernel_rfl)) (fun _ _ _ h => h) (Or.inl ⟨by rfl, ?_⟩) hHeld ?_ ?_
  rotate_left
  ·rintro w' ⟨s0, s1, s2, s3, s4⟩
   go_simp
   with_reducible rfl
  rotate_left
  ·simp only [Act.put, List.setIfInBounds_toArray, List.set_cons_zero, List.set_cons_succ, i64_w, i32_w]
   rfl
  refine pure_ (i := 7) (N := some 14) (v := ?_) (a' := ?_) #[true, true, true, true, false, true, true, true, false, true, false, true, false, false, false, false, false] rfl rfl (any_of HT_.out (by kernel_rfl)) (fun _ _ _ h => h) (Or.inl ⟨by rfl, ?_⟩) ?_ ?_
  rotate_left
  ·intro w'
   go_simp
   with_reducible rfl
  rotate_left
  ·simp only [Act.put, List.setIfInBounds_toArray, List.set_cons_zero, List.set_cons_succ, i64_w, i32_w]
   rfl
  refine take_ (i := 10) (N := some 17) (v := ?_) (a' := ?_) #[true, true, true, true, false, true, true, true, false, true, true, true, false, false, false, false, false] rfl rfl (take_ofW HT_.out HW_.out (by kernel_rfl)) (fun _ _ _ h => h) (Or.inl ⟨by rfl, ?_⟩) hHeld ?_ ?_
  rotate_left
  ·rintro w' ⟨s0, s1, s2, s3, s4⟩
   go_simp
   with_reducible rfl
  rotate_left
  ·simp only [Act.put, List.setIfInBounds_toArray, List.set_cons_zero, List.set_cons_succ, i64_w, i32_w]
   rfl
  refine take_ (i := 12) (N := some 19) (v := ?_) (a' := ?_) #[true, true, true, true, false, true, true, true, false, true, true, true, true, false, false, false, false] rfl rfl (take_ofW HT_.out HW_.out (by kernel_rfl)) (fun _ _ _ h => h) (Or.inl ⟨by rfl, ?_⟩) hHeld ?_ ?_
  rotate_left
  ·rintro w' ⟨s0, s1, s2, s3, s4⟩
   go_simp
   with_reducible rfl
  rotate_left
  ·simp only [Act.put, List.setIfInBounds_toArray, List.set_cons_zero, List.set_cons_succ, i64_w, i32_w]
   rfl
  refine one_ (i := 4) (N := some 11) #[true, true, true, true, true, true, true, true, false, true, true, true, true, false, false, false, false] rfl rfl (one_of HT_.out (by kernel_rfl)) (by decide) (fun K hK => ?_)
  refine goes_ Tryd.func39 (by kernel_rfl) rfl #[.int .u64 a0_1] (by rfl) rfl rfl (by (try simp only [List.map_toArray, List.map_cons, List.map_nil]); first | done | rfl | (simp only [List.length_drop, List.length_take]; rfl)) ?_
  with_reducible refine (wire_Put.calls k a0_1 t338 _ A4.out).mono ?_
  rintro e w11 ⟨rfl, hb⟩
  refine ⟨_, rfl, ?_⟩
  have n0_ := Aside0.mk (blk_below (g := gb336) (o := .cells #[.string a0_0, .int .u64 a0_1, .int .i64 a0_2, .string a0_3, .string a0_4] 28 (0, 0)) (by (with_reducible repeat (first | refine blk_drewN ?_ _ | refine blk_drew ?_ | refine blk_alloc ?_ _)); exact BK336.out) hb)
  have n1_ := Aside0.mk (below_step (by repeat (first | (with_reducible first | exact HB.out | apply below_alloc | apply pw_below_drewN | apply below_drew1 | refine below_set ?_ GE336.out) | exact HB.out)) hb)
  clear BK336
  clear HB
  have BK336 := n0_
  have HB := n1_
  clear n0_ n1_
  (try clear hb)
  (try clear hb2)
  (try clear hk)
  (try clear hi)
  refine hK.out _ _ ⟨(blk_cell BK336.out 0).trans rfl, (blk_cell BK336.out 1).trans rfl, (blk_cell BK336.out 2).trans rfl, (blk_cell BK336.out 3).trans rfl, (blk_cell BK336.out 4).trans rfl⟩ (fun hHeld => ?_)
  clear hK K
  refine norm_ (a' := ?_) ?_ ?_
  rotate_left
  ·show Act.put _ (some 11) _ = _
   simp only [Act.put, List.setIfInBounds_toArray, List.set_cons_zero, List.set_cons_succ, i64_w, i32_w]
   rfl
  refine one_ (i := 8) (N := some 15) #[true, true, true, true, true, true, true, true, true, true, true, true, true, false, false, false, false] rfl rfl (one_of HT_.out (by kernel_rfl)) (by decide) (fun K hK => ?_)
  refine goes_ Tryd.func39 (by kernel_rfl) rfl #[.int .u64 (IntKind.u64.wrap (a0_2))] (by rfl) rfl rfl (by (try simp only [List.map_toArray, List.map_cons, List.map_nil]); first | done | rfl | (simp only [List.length_drop, List.length_take]; rfl)) ?_
  with_reducible refine (wire_Put.calls k (IntKind.u64.wrap (a0_2)) t339 _ A5.out).mono ?_
  rintro e w12 ⟨rfl, hb⟩
  refine ⟨_, rfl, ?_⟩
  have n0_ := Aside0.mk (blk_below (g := gb336) (o := .cells #[.string a0_0, .int .u64 a0_1, .int .i64 a0_2, .string a0_3, .string a0_4] 28 (0, 0)) (by (with_reducible repeat (first | refine blk_drewN ?_ _ | refine blk_drew ?_ | refine blk_alloc ?_ _)); exact BK336.out) hb)
  have n1_ := Aside0.mk (below_step (by repeat (first | (with_reducible first | exact HB.out | apply below_alloc | apply pw_below_drewN | apply below_drew1 | refine below_set ?_ GE336.out) | exact HB.out)) hb)
  clear BK336
  clear HB
  have BK336 := n0_
  have HB := n1_
  clear n0_ n1_
  (try clear hb)
  (try clear hb2)
  (try clear hk)
  (try clear hi)
  refine hK.out _ _ ⟨(blk_cell BK336.out 0).trans rfl, (blk_cell BK336.out 1).trans rfl, (blk_cell BK336.out 2).trans rfl, (blk_cell BK336.out 3).trans rfl, (blk_cell BK336.out 4).trans rfl⟩ (fun hHeld => ?_)
  clear hK K
  refine norm_ (a' := ?_) ?_ ?_
  rotate_left
  ·show Act.put _ (some 15) _ = _
   simp only [Act.put, List.setIfInBounds_toArray, List.set_cons_zero, List.set_cons_succ, i64_w, i32_w]
   rfl
  refine one_ (i := 13) (N := some 20) #[true, true, true, true, true, true, true, true, true, true, true, true, true, true, false, false, false] rfl rfl (one_of HT_.out (by kernel_rfl)) (by decide) (fun K hK => ?_)
  refine Kd.R_lit_step Kd.string _ 9 ?hg (N := 20) ?hd (xs := ([a0_0, t338, t339, a0_3, a0_4] : List ByteArray)) (inner := [.string a0_0, .string t338, .string t339, .string a0_3, .string a0_4]) (ok := fun _ => True) (okp := fun _ => True) ?hr ?hp (fun _ hk => hk) trivial (Below.refl _ _) (Nat.le_refl _) (by simp) ?_; (case hd => rfl); (case hg => rfl); (case hr => first | (go_simp; done) | (go_simp; rfl)); (case hp => exact (Reps.one (show Kd.M Kd.string _ _ _ a0_0 [.string a0_0] from rfl) (Reps.one (show Kd.M Kd.string _ _ _ t338 [.string t338] from rfl) (Reps.one (show Kd.M Kd.string _ _ _ t339 [.string t339] from rfl) (Reps.one (show Kd.M Kd.string _ _ _ a0_3 [.string a0_3] from rfl) (Reps.one (show Kd.M Kd.string _ _ _ a0_4 [.string a0_4] from rfl) (Reps.none _ _)))))))
  intro v341 w13 ho14 hb hg_ hnew_
  clear hg_ hnew_
  (first | rw [← Ny340.out] at ho14 | (simp only [Int.reduceToNat] at ho14; rw [← Ny340.out] at ho14))
  have n0_ := Aside0.mk (Kd.R_lower ho14 (below_size (by repeat (first | (with_reducible first | exact HB.out | apply below_alloc | apply pw_below_drewN | apply below_drew1 | refine below_set ?_ GE336.out) | exact HB.out))))
  have n1_ := Aside0.mk (blk_below (g := gb336) (o := .cells #[.string a0_0, .int .u64 a0_1, .int .i64 a0_2, .string a0_3, .string a0_4] 28 (0, 0)) (by (with_reducible repeat (first | refine blk_drewN ?_ _ | refine blk_drew ?_ | refine blk_alloc ?_ _)); exact BK336.out) hb)
  have n2_ := Aside0.mk (below_step (by repeat (first | (with_reducible first | exact HB.out | apply below_alloc | apply pw_below_drewN | apply below_drew1 | refine below_set ?_ GE336.out) | exact HB.out)) hb)
  clear BK336
  clear HB
  have HO342 := n0_
  have BK336 := n1_
  have HB := n2_
  clear n0_ n1_ n2_
  clear hb ho14
  obtain ⟨Ao15, co15, eo15⟩ := Kd.R_slice HO342.out
  (first | subst eo15 | (injection eo15 with f1_ f2_ f3_; have f4_ := f1_.symm; have f5_ := f3_.symm; clear f1_ f2_ f3_; subst f4_; subst f5_))
  refine hK.out _ _ ⟨(blk_cell BK336.out 0).trans rfl, (blk_cell BK336.out 1).trans rfl, (blk_cell BK336.out 2).trans rfl, (blk_cell BK336.out 3).trans rfl, (blk_cell BK336.out 4).trans rfl⟩ (fun hHeld => ?_)
  clear hK K
  refine norm_ (a' := ?_) ?_ ?_
  rotate_left
  ·show Act.put _ (some 20) _ = _
   simp only [Act.put, List.setIfInBounds_toArray, List.set_cons_zero, List.set_cons_succ, i64_w, i32_w]
   rfl
  refine one_ (i := 14) (N := some 21) #[true, true, true, true, true, true, true, true, true, true, true, true, true, true, true, false, false] rfl rfl (one_of HT_.out (by kernel_rfl)) (by decide) (fun K hK => ?_)
  refine goes_ Tryd.func38 (by kernel_rfl) rfl #[.slice Ao15 y340.length co15] (by rfl) rfl rfl (by (try simp only [List.map_toArray, List.map_cons, List.map_nil]); first | done | rfl | (simp only [List.length_drop, List.length_take]; rfl)) ?_
  with_reducible refine (wire_PutAll.calls k _ _ y340 t343 _ ?side1 ?side2 A6.out).mono ?_
  (case side1 => repeat (first | exact (Kd.R_reads' HO342.out).2.2 | (with_reducible refine Kd.C_alloc ?_ _) | (with_reducible refine Kd.C_drewN ?_ _) | (with_reducible refine Kd.C_drew ?_)))
  (case side2 => exact (Kd.R_reads' HO342.out).2.1)
  rintro e w16 ⟨rfl, hb⟩
  refine ⟨_, rfl, ?_⟩
  have n0_ := Aside0.mk (Kd.R_below (by (with_reducible repeat (first | apply Kd.R_alloc | apply Kd.R_drewN | apply Kd.R_drew)); exact HO342.out) hb)
  have n1_ := Aside0.mk (blk_below (g := gb336) (o := .cells #[.string a0_0, .int .u64 a0_1, .int .i64 a0_2, .string a0_3, .string a0_4] 28 (0, 0)) (by (with_reducible repeat (first | refine blk_drewN ?_ _ | refine blk_drew ?_ | refine blk_alloc ?_ _)); exact BK336.out) hb)
  have n2_ := Aside0.mk (below_step (by repeat (first | (with_reducible first | exact HB.out | apply below_alloc | apply pw_below_drewN | apply below_drew1 | refine below_set ?_ GE336.out) | exact HB.out)) hb)
  clear HO342
  clear BK336
  clear HB
  have HO342 := n0_
  have BK336 := n1_
  have HB := n2_
  clear n0_ n1_ n2_
  (try clear hb)
  (try clear hb2)
  (try clear hk)
  (try clear hi)
  refine hK.out _ _ ⟨(blk_cell BK336.out 0).trans rfl, (blk_cell BK336.out 1).trans rfl, (blk_cell BK336.out 2).trans rfl, (blk_cell BK336.out 3).trans rfl, (blk_cell BK336.out 4).trans rfl⟩ (fun hHeld => ?_)
  clear hK K
  refine norm_ (a' := ?_) ?_ ?_
  rotate_left
  ·show Act.put _ (some 21) _ = _
   simp only [Act.put, List.setIfInBounds_toArray, List.set_cons_zero, List.set_cons_succ, i64_w, i32_w]
   rfl
  refine pure_ (i := 15) (N := some 2) (v := ?_) (a' := ?_) #[true, true, true, true, true, true, true, true, true, true, true, true, true, true, true, true, false] rfl rfl (any_of HT_.out (by kernel_rfl)) (fun _ _ _ h => h) (Or.inl ⟨by rfl, ?_⟩) ?_ ?_
  rotate_left
  ·intro w'
   go_simp
   with_reducible rfl
  rotate_left
  ·simp only [Act.put, List.setIfInBounds_toArray, List.set_cons_zero, List.set_cons_succ, i64_w, i32_w]
   rfl
  refine pure_ (i := 16) (N := some 3) (v := ?_) (a' := ?_) #[true, true, true, true, true, true, true, true, true, true, true, true, true, true, true, true, true] rfl rfl (any_of HT_.out (by kernel_rfl)) (fun _ _ _ h => h) (Or.inl ⟨by rfl, ?_⟩) ?_ ?_
  rotate_left
  ·intro w'
   go_simp
   with_reducible rfl
  rotate_left
  ·simp only [Act.put, List.setIfInBounds_toArray, List.set_cons_zero, List.set_cons_succ, i64_w, i32_w]
   rfl
  refine done_ (done_of HT_.out (by kernel_rfl)) ?_
  try go_wp2
  go_ret2
  exact ⟨by first | rfl | (simp [errW_none, errW_some] <;> rfl) | (simp [*, errW_none, errW_some] <;> rfl), by repeat (first | (with_reducible first | exact HB.out | apply below_alloc | apply pw_below_drewN | apply below_drew1 | refine below_set ?_ GE336.out) | exact HB.out)⟩
 ·replace c3 := Bool.eq_false_iff.mpr c3
  subst c3
  have H1 : (some ((⟨#[]⟩ : ByteArray), 1)) = some (r1, r2) := by rw [if_neg (show ¬ (false = true) by decide)] at H; exact H
  clear H
  have H := H1
  clear H1
  simp only [Option.some.injEq, Prod.mk.injEq] at H
  obtain ⟨rfl, rfl⟩ := H
  go_enter Tryd.func19, Tryd.ntmps19
  go_wp2_with (first | ((with_reducible refine gate_dst (N := 1) rfl ?_); refine box_event ?hg (N := 1) ?hd (cs := #[.string a0_0, .int .u64 a0_1, .int .i64 a0_2, .string a0_3, .string a0_4]) (t := 28) ?hr ?_; (case hd => rfl); (case hg => rfl); (case hr => first | (go_simp; done) | (go_simp; rfl)); intro gb336 hg w17 hbox hb; have n0_ := Aside0.mk (below_step (by repeat (first | (with_reducible first | exact HB.out | apply below_alloc | apply pw_below_drewN | apply below_drew1) | exact HB.out)) hb); have n1_ := Aside0.mk (hbox); have n2_ := Aside0.mk ((by rw [hg]; exact (below_size (by repeat (first | (with_reducible first | exact HB.out | apply below_alloc | apply pw_below_drewN | apply below_drew1) | exact HB.out))) : w.heap.size ≤ gb336)); have n3_ := Aside0.mk ((by rw [hg]; exact (below_size (by repeat (first | (with_reducible first | exact HB.out | apply below_alloc | apply pw_below_drewN | apply below_drew1) | exact HB.out))) : w.heap.size ≤ gb336)); clear HB; have HB := n0_; have BK336 := n1_; have GW336 := n2_; have GE336 := n3_; clear n0_ n1_ n2_ n3_; clear hb hbox hg; have hcz18_0 : w17.cell? ⟨gb336, 0, none⟩ = some (.string a0_0) := (blk_cell BK336.out 0).trans rfl; have hcz18_1 : w17.cell? ⟨gb336, 1, none⟩ = some (.int .u64 a0_1) := (blk_cell BK336.out 1).trans rfl; have hcz18_2 : w17.cell? ⟨gb336, 2, none⟩ = some (.int .i64 a0_2) := (blk_cell BK336.out 2).trans rfl; have hcz18_3 : w17.cell? ⟨gb336, 3, none⟩ = some (.string a0_3) := (blk_cell BK336.out 3).trans rfl; have hcz18_4 : w17.cell? ⟨gb336, 4, none⟩ = some (.string a0_4) := (blk_cell BK336.out 4).trans rfl; have hfz18_0 := blk_frozen BK336.out 0; have hfz18_1 := blk_frozen BK336.out 1; have hfz18_2 := blk_frozen BK336.out 2; have hfz18_3 := blk_frozen BK336.out 3; have hfz18_4 := blk_frozen BK336.out 4) | ((with_reducible refine gate_callee (f := 31) rfl ?_); refine goesL_ (some 5) rfl rfl Tryd.func31 (by kernel_rfl) rfl #[.agg #[.string a0_0, .int .u64 a0_1, .int .i64 a0_2, .string a0_3, .string a0_4]] rfl (by (try simp only [List.map_toArray, List.map_cons, List.map_nil]); first | done | rfl | (simp only [List.length_drop, List.length_take]; rfl)) ?_; (with_reducible refine (fresh_Right.calls k a0_0 a0_1 a0_2 a0_3 a0_4 false _ A2.out ?sidev).mono ?_); (case sidev => exact Laid8.below HV.out (by repeat (first | (with_reducible first | exact HB.out | apply below_alloc | apply pw_below_drewN | apply below_drew1 | refine below_set ?_ GE336.out) | exact HB.out))); rintro e w19 ⟨rfl, hb⟩; refine ⟨_, rfl, ?_⟩; have n0_ := Aside0.mk (blk_below (g := gb336) (o := .cells #[.string a0_0, .int .u64 a0_1, .int .i64 a0_2, .string a0_3, .string a0_4] 28 (0, 0)) (by (with_reducible repeat (first | refine blk_drewN ?_ _ | refine blk_drew ?_ | refine blk_alloc ?_ _)); exact BK336.out) hb); have n1_ := Aside0.mk (below_step (by repeat (first | (with_reducible first | exact HB.out | apply below_alloc | apply pw_below_drewN | apply below_drew1 | refine below_set ?_ GE336.out) | exact HB.out)) hb); clear BK336; clear HB; have BK336 := n0_; have HB := n1_; clear n0_ n1_; (try clear hb); (try clear hb2); (try clear hk); (try clear hi)))
  go_ret2
  exact ⟨by first | rfl | (simp [errW_none, errW_some] <;> rfl) | (simp [*, errW_none, errW_some] <;> rfl), by repeat (first | (with_reducible first | exact HB.out | apply below_alloc | apply pw_below_drewN | apply below_drew1 | refine below_set ?_ GE336.out) | exact HB.out)⟩
end Go.Proofs.YtodiffgpefidoaaDoor.P

