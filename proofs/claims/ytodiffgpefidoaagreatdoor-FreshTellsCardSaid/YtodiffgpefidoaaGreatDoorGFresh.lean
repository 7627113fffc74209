/- Slimmed by wip/slim.py. -/
import Derived.Test.YtodiffgpefidoaaGreatDoorG0
import Derived.Test.YtodiffgpefidoaaGreatDoorGEq
import Derived.Test.YtodiffgpefidoaaGreatDoorGTerm
import Derived.Test.YtodiffgpefidoaaGreatDoorXName
import Derived.Test.YtodiffgpefidoaaGreatDoorXTake
import Derived.Test.YtodiffgpefidoaaGreatDoorXTerm
import Derived.Test.YtodiffgpefidoaaGreatDoorXTree
namespace Go.Proofs.YtodiffgpefidoaaGreatDoor.P
open Go.RowKit Go.Proofs.YtodiffgpefidoaaGreatDoorW.PrintWords Go.Proofs.YtodiffgpefidoaaGreatDoorW.PrintLast Go.Proofs.YtodiffgpefidoaaGreatDoorW.PrintMore
attribute [local go_sem] max2_int min2_int max_two min_two max_three min_three max_four min_four
set_option linter.unusedVariables false
set_option linter.unusedSimpArgs false
attribute [local go_sem high] eqA24
def fresh_chain.f : Nat → ByteArray → List ByteArray → Option (ByteArray × Int)
 | 0, _, _ => none
 | k + 1, a0, l1 => if (l1.length : Int) = 0 then (some (a0, 0)) else (if 0 < (l1.length : Int) then (if 1 ≤ (l1.length : Int) then ((fresh_chain.f k (rdOf ByteArray.empty l1 0) (l1.drop 1)).bind fun bt163 => (if bt163.2 = 0 then ((term_OfPair.f a0 bt163.1).bind fun bt165 => (some (bt165.1, bt165.2))) else (some ((⟨#[]⟩ : ByteArray), bt163.2)))) else (none)) else (none))
def fresh_chain.T3 : Bool × List (List Nat × List Nat) := (true, [([], []), ([0], [0]), ([1], [1]), ([], []), ([3], [3]), ([2, 4], [2, 4]), ([5], [5]), ([6], [6]), ([6], [6]), ([7, 5, 0, 1, 2, 3, 4, 5, 6, 7], [7]), ([8, 9, 0, 1, 2, 3, 4, 5, 6, 7, 8, 9], [8])])
def fresh_chain.B3 : List Nat := [0, 1, 3, 0, 8, 31, 63, 127, 127, 255, 1023]
theorem fresh_chain.tab3 : rtab .any (opsOf Tryz.f56 3) = fresh_chain.T3 := by kernel_rfl
theorem fresh_chain.bits3 : waitsOk fresh_chain.T3.2 fresh_chain.B3 = true := by kernel_rfl
set_option maxHeartbeats 8000000 in
set_option maxRecDepth 100000 in
theorem fresh_chain.calls (k : Nat) : ∀ (a0 : ByteArray) (A1 : Option Addr) (c1 : Nat) (l1 : List ByteArray) (r1 : ByteArray) (r2 : Int) (w : World) (hr1 : Kd.C Kd.string w A1 l1.length l1) (hc1 : l1.length ≤ c1) (h : fresh_chain.f k a0 l1 = some (r1, r2)),
  Calls Tryz.prog 56 #[.string a0, .slice A1 l1.length c1] w fun e w' => e = .returned (.tuple #[.string r1, .int .i64 r2]) ∧ Below w.heap.size w w' := by
 induction k using Nat.strongRecOn with
 | _ k ih =>
 intro a0 A1 c1 l1 r1 r2 w hr1 hc1 h
 cases k with
 | zero => exact absurd h (by simp [fresh_chain.f])
 | succ k =>
 simp only [fresh_chain.f] at h
 have HR1 := Aside0.mk hr1
 have HC1 := Aside0.mk hc1
 clear hr1 hc1
 have HB := Aside0.mk (Below.refl w.heap.size w)
 have H : (if (l1.length : Int) = 0 then (some (a0, 0)) else (if 0 < (l1.length : Int) then (if 1 ≤ (l1.length : Int) then ((fresh_chain.f k (rdOf ByteArray.empty l1 0) (l1.drop 1)).bind fun bt163 => (if bt163.2 = 0 then ((term_OfPair.f a0 bt163.1).bind fun bt165 => (some (bt165.1, bt165.2))) else (some ((⟨#[]⟩ : ByteArray), bt163.2)))) else (none)) else (none))) = some (r1, r2) := h
 clear h
 by_cases c3 : (l1.length : Int) = 0
 ·rw [if_pos c3] at H
  have c3b0 : ((l1.length : Int) == 0) = true := beq_iff_eq.mpr c3
  have c3b1 : ((l1.length : Int) != 0) = false := bne_eq_false_iff_eq.mpr c3
  clear c3
  simp only [Option.some.injEq, Prod.mk.injEq] at H
  obtain ⟨rfl, rfl⟩ := H
  go_enter Tryz.func56, Tryz.ntmps56
  go_wp2
  go_ret2
  exact ⟨eq_, bl_⟩
 ·rw [if_neg c3] at H
  have c3b0 : ((l1.length : Int) == 0) = false := beq_eq_false_iff_ne.mpr c3
  have c3b1 : ((l1.length : Int) != 0) = true := bne_iff_ne.mpr c3
  have c3b2 : ¬ (l1 = []) := fun h_ => c3 (by rw [h_]; rfl)
  by_cases c4 : 0 < (l1.length : Int)
  ·rw [if_pos c4] at H
   have c4b0 : decide (0 < (l1.length : Int)) = true := decide_eq_true c4
   have c4b1 : decide (0 < l1.length) = true := decide_eq_true (by omega)
   clear c4
   by_cases c5 : 1 ≤ (l1.length : Int)
   ·rw [if_pos c5] at H
    have c5b0 := eq_true c5
    have c5b1 : decide (1 ≤ (l1.length : Int)) = true := decide_eq_true c5
    clear c5
    replace H := Option.bind_eq_some_iff.mp H
    obtain ⟨⟨t163, t164⟩, A60, H⟩ := H
    try dsimp only at H
    have A6 := Aside0.mk A60
    clear A60
    by_cases c7 : t164 = 0
    ·rw [if_pos c7] at H
     have c7b0 : (t164 == 0) = true := beq_iff_eq.mpr c7
     have c7b1 : (t164 != 0) = false := bne_eq_false_iff_eq.mpr c7
     clear c7
     replace H := Option.bind_eq_some_iff.mp H
     obtain ⟨⟨t165, t166⟩, A80, H⟩ := H
     try dsimp only at H
     have A8 := Aside0.mk A80
     clear A80
     simp only [Option.some.injEq, Prod.mk.injEq] at H
     obtain ⟨rfl, rfl⟩ := H
     go_enter Tryz.func56, Tryz.ntmps56
     try go_wp2
     have n0_ := Aside0.mk (below_drew1 HB.out)
     clear HB
     have HB := n0_
     clear n0_
     have p161 : 0 ≤ (0 : Int) := (by omega)
     have q161 : 0 < (l1.length : Int) := of_decide_eq_true (by first | (with_reducible assumption) | assumption)
     obtain ⟨ad161, e161, hx161_0⟩ := Kd.at_string HR1.out 0 p161 q161
     have hw161_0 := hx161_0
     (try rw [show ((0 : Int)).toNat = 0 from rfl] at hw161_0)
     (try rw [show 0 * 1 = 0 from rfl] at hw161_0)
     (try rw [Addr.add_zero'] at hw161_0)
     cases e161
     have qi161 : (0 < l1.length) = True := eq_true (by omega)
     (try rw [show ((0 : Int)).toNat = 0 from rfl] at hx161_0)
     (try rw [Addr.add_zero'] at hx161_0)
     replace hx161_0 := (HB.out.cell (World.block_lt_of_cell? w _ hx161_0)).trans hx161_0
     replace p161 := eq_true p161
     replace q161 := eq_true q161
     obtain ⟨i010, hi010, _, hsz10, _⟩ := info_parts info9
     obtain ⟨A10, hcut10, hA10, hC10⟩ := print_drop_of (P := Tryz.prog) Value.string (⟨#[]⟩ : ByteArray) 25 9 .i64 Tryz.underlying25 hi010 hsz10 (some ad161) c1 l1 1 (by omega) (of_decide_eq_true (by first | (with_reducible assumption) | assumption)) HC1.out
     have HR162 := Aside0.mk (Kd.C_of_reads (h1 := fun _ => rfl) (hA10 _ (Kd.reads_of_C HR1.out)))
     have HC162 := Aside0.mk hC10
     clear hA10 hC10 hi010 hsz10
     refine start_ (n := 11) (S := fun w' => w'.cell? ad161 = some (.string (rdOf ByteArray.empty l1 0))) (ds := []) #[false, false, false, false, false, false, false, false, false, false, false] (by kernel_rfl) rfl rfl (((HB.out.cell (World.block_lt_of_cell? w _ hw161_0)).trans hw161_0)) (fun hHeld => ?_); refine with_tabW fresh_chain.tab3 fresh_chain.bits3 (fun HT_ HW_ => ?_)
     generalize w.drew = w9 at HB HR162 hx161_0 hHeld ⊢
     refine pS (i := 0) (N := some 13) (bn 11 1) rfl HT_.out ?_
     refine pS (i := 1) (N := some 14) (bn 11 3) rfl HT_.out ?_
     refine pS (i := 3) (N := some 16) (bn 11 11) rfl HT_.out ?_
     refine pS (i := 4) (N := some 17) (bn 11 27) rfl HT_.out ?_
     refine tS (i := 2) (N := some 15) (bn 11 31) rfl HT_.out HW_.out hHeld (fun w' s0 => by go_simp; with_reducible rfl) ?_
     refine oS (i := 5) (N := some 18) (bn 11 63) rfl HT_.out (fun K hK => ?_)
     refine goes_ Tryz.func56 (by kernel_rfl) rfl #[.string (rdOf ByteArray.empty l1 0), .slice A10 (l1.drop 1).length (c1 - 1)] (by rfl) rfl rfl (by (try simp only [List.map_toArray, List.map_cons, List.map_nil]); first | done | (rw [show (l1.drop 1).length = (l1.length - 1) from List.length_drop] <;> rfl) | rfl | (simp only [List.length_drop, List.length_take]; rfl)) ?_
     with_reducible refine (ih k (by omega) (rdOf ByteArray.empty l1 0) _ _ (l1.drop 1) t163 t164 _ ?side1 ?side2 A6.out).mono ?_
     (case side1 => repeat (first | exact (Kd.C_below HR162.out HB.out) | (with_reducible refine Kd.C_alloc ?_ _) | (with_reducible refine Kd.C_drewN ?_ _) | (with_reducible refine Kd.C_drew ?_)))
     (case side2 => exact HC162.out)
     rintro e w11 ⟨rfl, hb⟩
     refine ⟨_, rfl, ?_⟩
     have n0_ := Aside0.mk (below_step bl_ hb)
     clear HB
     have HB := n0_
     clear n0_
     (try clear hb)
     (try clear hb2)
     (try clear hk)
     (try clear hi)
     refine hK.out _ _ (((HB.out.cell (World.block_lt_of_cell? w _ hw161_0)).trans hw161_0)) (fun hHeld => ?_)
     clear hK K
     refine nS (some 18) ?_
     refine pS (i := 6) (N := some 12) (bn 11 127) rfl HT_.out ?_
     refine pS (i := 7) (N := some 19) (bn 11 255) rfl HT_.out ?_
     refine pS (i := 8) (N := some 20) (bn 11 511) rfl HT_.out ?_
     refine pS (i := 9) (N := some 6) (bn 11 1023) rfl HT_.out ?_
     refine pS (i := 10) (N := some 7) (bn 11 2047) rfl HT_.out ?_
     refine done_ (done_of HT_.out (by kernel_rfl)) ?_
     try go_wp2_with (first | ((with_reducible refine gate_callee (f := 89) rfl ?_); refine gL (some 26) Tryz.func89 #[.string a0, .string t163] rfl ?_; (with_reducible refine (term_OfPair.calls a0 t163 t165 t166 _ A8.out).mono ?_); rintro e w12 ⟨rfl, hb⟩; refine ⟨_, rfl, ?_⟩; have n0_ := Aside0.mk (below_step bl_ hb); clear HB; have HB := n0_; clear n0_; (try clear hb)))
     go_ret2
     exact ⟨eq_, bl_⟩
    ·rw [if_neg c7] at H
     have c7b0 : (t164 == 0) = false := beq_eq_false_iff_ne.mpr c7
     have c7b1 : (t164 != 0) = true := bne_iff_ne.mpr c7
     simp only [Option.some.injEq, Prod.mk.injEq] at H
     obtain ⟨rfl, rfl⟩ := H
     go_enter Tryz.func56, Tryz.ntmps56
     try go_wp2
     have n0_ := Aside0.mk (below_drew1 HB.out)
     clear HB
     have HB := n0_
     clear n0_
     have p161 : 0 ≤ (0 : Int) := (by omega)
     have q161 : 0 < (l1.length : Int) := of_decide_eq_true (by first | (with_reducible assumption) | assumption)
     obtain ⟨ad161, e161, hx161_0⟩ := Kd.at_string HR1.out 0 p161 q161
     have hw161_0 := hx161_0
     (try rw [show ((0 : Int)).toNat = 0 from rfl] at hw161_0)
     (try rw [show 0 * 1 = 0 from rfl] at hw161_0)
     (try rw [Addr.add_zero'] at hw161_0)
     cases e161
     have qi161 : (0 < l1.length) = True := eq_true (by omega)
     (try rw [show ((0 : Int)).toNat = 0 from rfl] at hx161_0)
     (try rw [Addr.add_zero'] at hx161_0)
     replace hx161_0 := (HB.out.cell (World.block_lt_of_cell? w _ hx161_0)).trans hx161_0
     replace p161 := eq_true p161
     replace q161 := eq_true q161
     obtain ⟨i014, hi014, _, hsz14, _⟩ := info_parts info9
     obtain ⟨A14, hcut14, hA14, hC14⟩ := print_drop_of (P := Tryz.prog) Value.string (⟨#[]⟩ : ByteArray) 25 9 .i64 Tryz.underlying25 hi014 hsz14 (some ad161) c1 l1 1 (by omega) (of_decide_eq_true (by first | (with_reducible assumption) | assumption)) HC1.out
     have HR162 := Aside0.mk (Kd.C_of_reads (h1 := fun _ => rfl) (hA14 _ (Kd.reads_of_C HR1.out)))
     have HC162 := Aside0.mk hC14
     clear hA14 hC14 hi014 hsz14
     refine start_ (n := 11) (S := fun w' => w'.cell? ad161 = some (.string (rdOf ByteArray.empty l1 0))) (ds := []) #[false, false, false, false, false, false, false, false, false, false, false] (by kernel_rfl) rfl rfl (((HB.out.cell (World.block_lt_of_cell? w _ hw161_0)).trans hw161_0)) (fun hHeld => ?_); refine with_tabW fresh_chain.tab3 fresh_chain.bits3 (fun HT_ HW_ => ?_)
     generalize w.drew = w13 at HB HR162 hx161_0 hHeld ⊢
     refine pS (i := 0) (N := some 13) (bn 11 1) rfl HT_.out ?_
     refine pS (i := 1) (N := some 14) (bn 11 3) rfl HT_.out ?_
     refine pS (i := 3) (N := some 16) (bn 11 11) rfl HT_.out ?_
     refine pS (i := 4) (N := some 17) (bn 11 27) rfl HT_.out ?_
     refine tS (i := 2) (N := some 15) (bn 11 31) rfl HT_.out HW_.out hHeld (fun w' s0 => by go_simp; with_reducible rfl) ?_
     refine oS (i := 5) (N := some 18) (bn 11 63) rfl HT_.out (fun K hK => ?_)
     refine goes_ Tryz.func56 (by kernel_rfl) rfl #[.string (rdOf ByteArray.empty l1 0), .slice A14 (l1.drop 1).length (c1 - 1)] (by rfl) rfl rfl (by (try simp only [List.map_toArray, List.map_cons, List.map_nil]); first | done | (rw [show (l1.drop 1).length = (l1.length - 1) from List.length_drop] <;> rfl) | rfl | (simp only [List.length_drop, List.length_take]; rfl)) ?_
     with_reducible refine (ih k (by omega) (rdOf ByteArray.empty l1 0) _ _ (l1.drop 1) t163 t164 _ ?side1 ?side2 A6.out).mono ?_
     (case side1 => repeat (first | exact (Kd.C_below HR162.out HB.out) | (with_reducible refine Kd.C_alloc ?_ _) | (with_reducible refine Kd.C_drewN ?_ _) | (with_reducible refine Kd.C_drew ?_)))
     (case side2 => exact HC162.out)
     rintro e w15 ⟨rfl, hb⟩
     refine ⟨_, rfl, ?_⟩
     have n0_ := Aside0.mk (below_step bl_ hb)
     clear HB
     have HB := n0_
     clear n0_
     (try clear hb)
     (try clear hb2)
     (try clear hk)
     (try clear hi)
     refine hK.out _ _ (((HB.out.cell (World.block_lt_of_cell? w _ hw161_0)).trans hw161_0)) (fun hHeld => ?_)
     clear hK K
     refine nS (some 18) ?_
     refine pS (i := 6) (N := some 12) (bn 11 127) rfl HT_.out ?_
     refine pS (i := 7) (N := some 19) (bn 11 255) rfl HT_.out ?_
     refine pS (i := 8) (N := some 20) (bn 11 511) rfl HT_.out ?_
     refine pS (i := 9) (N := some 6) (bn 11 1023) rfl HT_.out ?_
     refine pS (i := 10) (N := some 7) (bn 11 2047) rfl HT_.out ?_
     refine done_ (done_of HT_.out (by kernel_rfl)) ?_
     try go_wp2
     go_ret2
     exact ⟨eq_, bl_⟩
   ·rw [if_neg c5] at H
    exact absurd H (by simp)
  ·rw [if_neg c4] at H
   exact absurd H (by simp)
def fresh_signed.f (k : Nat) (a0_0 : ByteArray) (a0_1 : Int) (a0_2 : Int) (a0_3 : ByteArray) (a0_4 : ByteArray) : Option (ByteArray × Int) := (term_OfText.f k a0_0).bind fun bt169 => ((term_OfAtom.f k a0_1).bind fun t171 => ((term_OfAtom.f k (IntKind.u64.wrap (a0_2))).bind fun t172 => ((fresh_chain.f k bt169.1 (([t171, t172, a0_3] : List ByteArray))).bind fun bt176 => (some (bt176.1, bt176.2)))))
def fresh_signed.T2 : Bool × List (List Nat × List Nat) := (true, [([], []), ([], []), ([1], [1]), ([2], [2]), ([], []), ([4], [4]), ([5], [5]), ([6, 3], [6]), ([], []), ([8], [8]), ([3, 7, 9], [3, 7, 9]), ([0, 10, 7], [0, 10]), ([11], [11]), ([11], [11]), ([12, 11, 0, 1, 2, 3, 4, 5, 6, 7, 8, 9, 10, 11, 12, 13], [12]), ([13, 14, 0, 1, 2, 3, 4, 5, 6, 7, 8, 9, 10, 11, 12, 13, 14], [13])])
def fresh_signed.B2 : List Nat := [0, 0, 2, 6, 0, 16, 48, 126, 0, 256, 1022, 2047, 4095, 4095, 16383, 32767]
theorem fresh_signed.tab2 : rtab .any (opsOf Tryz.f25 2) = fresh_signed.T2 := by kernel_rfl
theorem fresh_signed.bits2 : waitsOk fresh_signed.T2.2 fresh_signed.B2 = true := by kernel_rfl
set_option maxHeartbeats 8000000 in
set_option maxRecDepth 100000 in
theorem fresh_signed.calls (k : Nat) (a0_0 : ByteArray) (a0_1 : Int) (a0_2 : Int) (a0_3 : ByteArray) (a0_4 : ByteArray) (r1 : ByteArray) (r2 : Int) (w : World) (h : fresh_signed.f k a0_0 a0_1 a0_2 a0_3 a0_4 = some (r1, r2)) :
  Calls Tryz.prog 25 #[.agg #[.string a0_0, .int .u64 a0_1, .int .i64 a0_2, .string a0_3, .string a0_4]] w fun e w' => e = .returned (.tuple #[.string r1, .int .i64 r2]) ∧ Below w.heap.size w w' := by
 have hu24 := Tryz.underlying24
 have HB := Aside0.mk (Below.refl w.heap.size w)
 unfold fresh_signed.f at h
 have H := h
 clear h
 replace H := Option.bind_eq_some_iff.mp H
 obtain ⟨⟨t169, t170⟩, A20, H⟩ := H
 try dsimp only at H
 have A2 := Aside0.mk A20
 clear A20
 replace H := Option.bind_eq_some_iff.mp H
 obtain ⟨t171, A30, H⟩ := H
 try dsimp only at H
 have A3 := Aside0.mk A30
 clear A30
 replace H := Option.bind_eq_some_iff.mp H
 obtain ⟨t172, A40, H⟩ := H
 try dsimp only at H
 have A4 := Aside0.mk A40
 clear A40
 obtain ⟨y173, hy173⟩ : ∃ y_ : List ByteArray, y_ = (([t171, t172, a0_3] : List ByteArray)) := ⟨_, rfl⟩
 replace H : ((fresh_chain.f k t169 y173).bind fun bt176 => (some (bt176.1, bt176.2))) = some (r1, r2) := by first | (rw [hy173]; with_reducible exact H) | (have H2_ := (Option.bind_some _ _).symm.trans H; rw [hy173]; with_reducible exact H2_) | (have H2_ := (Option.bind_some _ _).symm.trans H; with_reducible exact H2_) | with_reducible exact H | (rw [hy173]; exact H) | exact H
 have Ny173 := Aside0.mk hy173
 clear hy173
 replace H := Option.bind_eq_some_iff.mp H
 obtain ⟨⟨t176, t177⟩, A50, H⟩ := H
 try dsimp only at H
 have A5 := Aside0.mk A50
 clear A50
 simp only [Option.some.injEq, Prod.mk.injEq] at H
 obtain ⟨rfl, rfl⟩ := H
 go_enter Tryz.func25, Tryz.ntmps25
 try go_wp2_with (first | ((with_reducible refine gate_dst (N := 1) rfl ?_); refine box_event ?hg (N := 1) ?hd (cs := #[.string a0_0, .int .u64 a0_1, .int .i64 a0_2, .string a0_3, .string a0_4]) (t := 24) ?hr ?_; (case hd => rfl); (case hg => rfl); (case hr => first | (go_simp; done) | (go_simp; rfl)); intro gb168 hg w6 hbox hb; have n0_ := Aside0.mk (below_step bl_ hb); have n1_ := Aside0.mk (hbox); have n2_ := Aside0.mk ((by rw [hg]; exact (below_size bl_) : w.heap.size ≤ gb168)); have n3_ := Aside0.mk ((by rw [hg]; exact (below_size bl_) : w.heap.size ≤ gb168)); clear HB; have HB := n0_; have BK168 := n1_; have GW168 := n2_; have GE168 := n3_; clear n0_ n1_ n2_ n3_; clear hb hbox hg; have hcz7_0 : w6.cell? ⟨gb168, 0, none⟩ = some (.string a0_0) := (blk_cell BK168.out 0).trans rfl; have hcz7_1 : w6.cell? ⟨gb168, 1, none⟩ = some (.int .u64 a0_1) := (blk_cell BK168.out 1).trans rfl; have hcz7_2 : w6.cell? ⟨gb168, 2, none⟩ = some (.int .i64 a0_2) := (blk_cell BK168.out 2).trans rfl; have hcz7_3 : w6.cell? ⟨gb168, 3, none⟩ = some (.string a0_3) := (blk_cell BK168.out 3).trans rfl; have hcz7_4 : w6.cell? ⟨gb168, 4, none⟩ = some (.string a0_4) := (blk_cell BK168.out 4).trans rfl; have hfz7_0 := blk_frozen BK168.out 0; have hfz7_1 := blk_frozen BK168.out 1; have hfz7_2 := blk_frozen BK168.out 2; have hfz7_3 := blk_frozen BK168.out 3; have hfz7_4 := blk_frozen BK168.out 4) | ((with_reducible refine gate_callee (f := 23) rfl ?_); refine gL (some 9) Tryz.func23 #[.string a0_0] rfl ?_; (with_reducible refine (term_OfText.calls k a0_0 t169 t170 _ A2.out).mono ?_); rintro e w8 ⟨rfl, hb⟩; refine ⟨_, rfl, ?_⟩; have n0_ := Aside0.mk (blk_below (g := gb168) (o := .cells #[.string a0_0, .int .u64 a0_1, .int .i64 a0_2, .string a0_3, .string a0_4] 24 (0, 0)) kl_ hb); have n1_ := Aside0.mk (below_step bl_ hb); clear BK168; clear HB; have BK168 := n0_; have HB := n1_; clear n0_ n1_; (try clear hb)))
 have n0_ := Aside0.mk (blk_drew BK168.out)
 have n1_ := Aside0.mk (below_drew1 HB.out)
 clear BK168
 clear HB
 have BK168 := n0_
 have HB := n1_
 clear n0_ n1_
 refine start_ (n := 16) (S := fun w' => w'.cell? ⟨gb168, 0, none⟩ = some (.string a0_0) ∧ w'.cell? ⟨gb168, 1, none⟩ = some (.int .u64 a0_1) ∧ w'.cell? ⟨gb168, 2, none⟩ = some (.int .i64 a0_2) ∧ w'.cell? ⟨gb168, 3, none⟩ = some (.string a0_3) ∧ w'.cell? ⟨gb168, 4, none⟩ = some (.string a0_4)) (ds := []) #[false, false, false, false, false, false, false, false, false, false, false, false, false, false, false, false] (by kernel_rfl) rfl rfl ⟨(blk_cell BK168.out 0).trans rfl, (blk_cell BK168.out 1).trans rfl, (blk_cell BK168.out 2).trans rfl, (blk_cell BK168.out 3).trans rfl, (blk_cell BK168.out 4).trans rfl⟩ (fun hHeld => ?_); refine with_tabW fresh_signed.tab2 fresh_signed.bits2 (fun HT_ HW_ => ?_)
 generalize w8.drew = w9 at BK168 HB hHeld ⊢
 refine pS (i := 0) (N := some 12) (bn 16 1) rfl HT_.out ?_
 refine pS (i := 1) (N := some 13) (bn 16 3) rfl HT_.out ?_
 refine pS (i := 4) (N := some 16) (bn 16 19) rfl HT_.out ?_
 refine pS (i := 8) (N := some 20) (bn 16 275) rfl HT_.out ?_
 refine tS (i := 2) (N := some 14) (bn 16 279) rfl HT_.out HW_.out hHeld (fun w' ⟨s0, s1, s2, s3, s4⟩ => by go_simp; with_reducible rfl) ?_
 refine tS (i := 5) (N := some 17) (bn 16 311) rfl HT_.out HW_.out hHeld (fun w' ⟨s0, s1, s2, s3, s4⟩ => by go_simp; with_reducible rfl) ?_
 refine pS (i := 6) (N := some 18) (bn 16 375) rfl HT_.out ?_
 refine tS (i := 9) (N := some 21) (bn 16 887) rfl HT_.out HW_.out hHeld (fun w' ⟨s0, s1, s2, s3, s4⟩ => by go_simp; with_reducible rfl) ?_
 refine oS (i := 3) (N := some 15) (bn 16 895) rfl HT_.out (fun K hK => ?_)
 refine gS Tryz.func57 #[.int .u64 a0_1] rfl ?_
 with_reducible refine (term_OfAtom.calls k a0_1 t171 _ A3.out).mono ?_
 rintro e w10 ⟨rfl, hb⟩
 refine ⟨_, rfl, ?_⟩
 have n0_ := Aside0.mk (blk_below (g := gb168) (o := .cells #[.string a0_0, .int .u64 a0_1, .int .i64 a0_2, .string a0_3, .string a0_4] 24 (0, 0)) kl_ hb)
 have n1_ := Aside0.mk (below_step bl_ hb)
 clear BK168
 clear HB
 have BK168 := n0_
 have HB := n1_
 clear n0_ n1_
 (try clear hb)
 (try clear hb2)
 (try clear hk)
 (try clear hi)
 refine hK.out _ _ ⟨(blk_cell BK168.out 0).trans rfl, (blk_cell BK168.out 1).trans rfl, (blk_cell BK168.out 2).trans rfl, (blk_cell BK168.out 3).trans rfl, (blk_cell BK168.out 4).trans rfl⟩ (fun hHeld => ?_)
 clear hK K
 refine nS (some 15) ?_
 refine oS (i := 7) (N := some 19) (bn 16 1023) rfl HT_.out (fun K hK => ?_)
 refine gS Tryz.func57 #[.int .u64 (IntKind.u64.wrap (a0_2))] rfl ?_
 with_reducible refine (term_OfAtom.calls k (IntKind.u64.wrap (a0_2)) t172 _ A4.out).mono ?_
 rintro e w11 ⟨rfl, hb⟩
 refine ⟨_, rfl, ?_⟩
 have n0_ := Aside0.mk (blk_below (g := gb168) (o := .cells #[.string a0_0, .int .u64 a0_1, .int .i64 a0_2, .string a0_3, .string a0_4] 24 (0, 0)) kl_ hb)
 have n1_ := Aside0.mk (below_step bl_ hb)
 clear BK168
 clear HB
 have BK168 := n0_
 have HB := n1_
 clear n0_ n1_
 (try clear hb)
 (try clear hb2)
 (try clear hk)
 (try clear hi)
 refine hK.out _ _ ⟨(blk_cell BK168.out 0).trans rfl, (blk_cell BK168.out 1).trans rfl, (blk_cell BK168.out 2).trans rfl, (blk_cell BK168.out 3).trans rfl, (blk_cell BK168.out 4).trans rfl⟩ (fun hHeld => ?_)
 clear hK K
 refine nS (some 19) ?_
 refine oS (i := 10) (N := some 22) (bn 16 2047) rfl HT_.out (fun K hK => ?_)
 refine Kd.R_lit_step Kd.string _ 9 ?hg (N := 22) ?hd (xs := ([t171, t172, a0_3] : List ByteArray)) (inner := [.string t171, .string t172, .string a0_3]) (ok := fun _ => True) (okp := fun _ => True) ?hr ?hp (fun _ hk => hk) trivial (Below.refl _ _) (Nat.le_refl _) (by simp) ?_; (case hd => rfl); (case hg => rfl); (case hr => first | (go_simp; done) | (go_simp; rfl)); (case hp => exact (Reps.one (show Kd.M Kd.string _ _ _ t171 [.string t171] from rfl) (Reps.one (show Kd.M Kd.string _ _ _ t172 [.string t172] from rfl) (Reps.one (show Kd.M Kd.string _ _ _ a0_3 [.string a0_3] from rfl) (Reps.none _ _)))))
 intro v174 w12 ho13 hb hg_ hnew_
 clear hg_ hnew_
 (first | rw [← Ny173.out] at ho13 | (simp only [Int.reduceToNat] at ho13; rw [← Ny173.out] at ho13))
 have n0_ := Aside0.mk (Kd.R_lower ho13 (below_size bl_))
 have n1_ := Aside0.mk (blk_below (g := gb168) (o := .cells #[.string a0_0, .int .u64 a0_1, .int .i64 a0_2, .string a0_3, .string a0_4] 24 (0, 0)) kl_ hb)
 have n2_ := Aside0.mk (below_step bl_ hb)
 clear BK168
 clear HB
 have HO175 := n0_
 have BK168 := n1_
 have HB := n2_
 clear n0_ n1_ n2_
 clear hb ho13
 obtain ⟨Ao14, co14, eo14⟩ := Kd.R_slice HO175.out
 (first | subst eo14 | (injection eo14 with f1_ f2_ f3_; have f4_ := f1_.symm; have f5_ := f3_.symm; clear f1_ f2_ f3_; subst f4_; subst f5_))
 refine hK.out _ _ ⟨(blk_cell BK168.out 0).trans rfl, (blk_cell BK168.out 1).trans rfl, (blk_cell BK168.out 2).trans rfl, (blk_cell BK168.out 3).trans rfl, (blk_cell BK168.out 4).trans rfl⟩ (fun hHeld => ?_)
 clear hK K
 refine nS (some 22) ?_
 refine oS (i := 11) (N := some 23) (bn 16 4095) rfl HT_.out (fun K hK => ?_)
 refine gS Tryz.func56 #[.string t169, .slice Ao14 y173.length co14] rfl ?_
 with_reducible refine (fresh_chain.calls k t169 _ _ y173 t176 t177 _ ?side1 ?side2 A5.out).mono ?_
 (case side1 => repeat (first | exact (Kd.R_reads' HO175.out).2.2 | (with_reducible refine Kd.C_alloc ?_ _) | (with_reducible refine Kd.C_drewN ?_ _) | (with_reducible refine Kd.C_drew ?_)))
 (case side2 => exact (Kd.R_reads' HO175.out).2.1)
 rintro e w15 ⟨rfl, hb⟩
 refine ⟨_, rfl, ?_⟩
 have n0_ := Aside0.mk (Kd.R_below (by (with_reducible repeat (first | apply Kd.R_alloc | apply Kd.R_drewN | apply Kd.R_drew)); exact HO175.out) hb)
 have n1_ := Aside0.mk (blk_below (g := gb168) (o := .cells #[.string a0_0, .int .u64 a0_1, .int .i64 a0_2, .string a0_3, .string a0_4] 24 (0, 0)) kl_ hb)
 have n2_ := Aside0.mk (below_step bl_ hb)
 clear HO175
 clear BK168
 clear HB
 have HO175 := n0_
 have BK168 := n1_
 have HB := n2_
 clear n0_ n1_ n2_
 (try clear hb)
 (try clear hb2)
 (try clear hk)
 (try clear hi)
 refine hK.out _ _ ⟨(blk_cell BK168.out 0).trans rfl, (blk_cell BK168.out 1).trans rfl, (blk_cell BK168.out 2).trans rfl, (blk_cell BK168.out 3).trans rfl, (blk_cell BK168.out 4).trans rfl⟩ (fun hHeld => ?_)
 clear hK K
 refine nS (some 23) ?_
 refine pS (i := 12) (N := some 24) (bn 16 8191) rfl HT_.out ?_
 refine pS (i := 13) (N := some 25) (bn 16 16383) rfl HT_.out ?_
 refine pS (i := 14) (N := some 2) (bn 16 32767) rfl HT_.out ?_
 refine pS (i := 15) (N := some 3) (bn 16 65535) rfl HT_.out ?_
 refine done_ (done_of HT_.out (by kernel_rfl)) ?_
 try go_wp2
 go_ret2
 exact ⟨eq_, bl_⟩
mutual
def fresh_Build.j0 : Nat → ByteArray → ByteArray → Int → List ByteArray → Bool → Option (ByteArray × Int × Int × ByteArray × ByteArray × Int)
 | 0, _, _, _, _, _ => none
 | k + 1, x0, x1, x2, x3, x20 => if x20 = true then (some ((⟨#[]⟩ : ByteArray), 0, 0, (⟨#[]⟩ : ByteArray), (⟨#[]⟩ : ByteArray), 1)) else ((term_OfText.f k (⟨#[]⟩ : ByteArray)).bind fun bt187 => (if (x3.length : Int) > 0 then ((tree_Root.f k x3).bind fun bt189 => (fresh_Build.j1 k x0 bt189.2 x1 x2 (x3.length : Int) bt189.1 (⟨#[]⟩ : ByteArray))) else (fresh_Build.j1 k x0 0 x1 x2 (x3.length : Int) bt187.1 (⟨#[]⟩ : ByteArray))))
def fresh_Build.j1 : Nat → ByteArray → Int → ByteArray → Int → Int → ByteArray → ByteArray → Option (ByteArray × Int × Int × ByteArray × ByteArray × Int)
 | 0, _, _, _, _, _, _, _ => none
 | k + 1, x0, x11, x187000, x187001, x187002, x187003, x187004 => if x11 = 0 then ((fresh_signed.f k x187000 x187001 x187002 x187003 x187004).bind fun bt191 => (fresh_Build.j2 k x0 bt191.2 bt191.1 x187000 x187001 x187002 x187003 x187004)) else (fresh_Build.j2 k x0 x11 (⟨#[]⟩ : ByteArray) x187000 x187001 x187002 x187003 x187004)
def fresh_Build.j2 : Nat → ByteArray → Int → ByteArray → ByteArray → Int → Int → ByteArray → ByteArray → Option (ByteArray × Int × Int × ByteArray × ByteArray × Int)
 | 0, _, _, _, _, _, _, _, _ => none
 | k + 1, x0, x11, x12, x187000, x187001, x187002, x187003, x187004 => if x11 = 0 then ((term_Sign.f x0 x12).bind fun bt193 => (if bt193.2 = 0 then (some (x187000, x187001, x187002, x187003, bt193.1, 0)) else (some ((⟨#[]⟩ : ByteArray), 0, 0, (⟨#[]⟩ : ByteArray), (⟨#[]⟩ : ByteArray), bt193.2)))) else (some ((⟨#[]⟩ : ByteArray), 0, 0, (⟨#[]⟩ : ByteArray), (⟨#[]⟩ : ByteArray), x11))
end
def fresh_Build.f (k : Nat) (a0 : ByteArray) (a1 : ByteArray) (a2 : Int) (l3 : List ByteArray) : Option (ByteArray × Int × Int × ByteArray × ByteArray × Int) := (term_Kind.f a0).bind fun t184 => (if t184 = 0 then (fresh_Build.j0 k a0 a1 a2 l3 true) else ((name_Right.f k a1).bind fun t185 => (fresh_Build.j0 k a0 a1 a2 l3 (!t185))))
set_option maxHeartbeats 8000000 in
set_option maxRecDepth 100000 in
theorem fresh_Build.calls (k : Nat) (a0 : ByteArray) (a1 : ByteArray) (a2 : Int) (A3 : Option Addr) (c3 : Nat) (l3 : List ByteArray) (r1 : ByteArray) (r2 : Int) (r3 : Int) (r4 : ByteArray) (r5 : ByteArray) (r6 : Int) (w : World) (hr3 : Kd.C Kd.string w A3 l3.length l3) (hc3 : l3.length ≤ c3) (h : fresh_Build.f k a0 a1 a2 l3 = some (r1, r2, r3, r4, r5, r6)) (hV : Laid8 w) :
  Calls Tryz.prog 7 #[.string a0, .string a1, .int .u64 a2, .slice A3 l3.length c3] w fun e w' => e = .returned (.tuple #[.agg #[.string r1, .int .u64 r2, .int .i64 r3, .string r4, .string r5], .int .i64 r6]) ∧ Below w.heap.size w w' := by
 have HV := Aside0.mk hV
 clear hV
 have hu24 := Tryz.underlying24
 have HR3 := Aside0.mk hr3
 have HC3 := Aside0.mk hc3
 clear hr3 hc3
 have HB := Aside0.mk (Below.refl w.heap.size w)
 unfold fresh_Build.f at h
 have H := h
 clear h
 have HC5 := Aside0.mk H
 clear H
 go_enter Tryz.func7, Tryz.ntmps7
 go_upto_region 1 with (first | ((with_reducible refine gate_dst (N := 8) rfl ?_); refine box_event ?hg (N := 8) ?hd (cs := #[.string (⟨#[]⟩ : ByteArray), .int .u64 0, .int .i64 0, .string (⟨#[]⟩ : ByteArray), .string (⟨#[]⟩ : ByteArray)]) (t := 24) ?hr ?_; (case hd => rfl); (case hg => rfl); (case hr => first | (go_simp; done) | (go_simp; rfl)); intro gb183 hg w6 hbox hb; have n0_ := Aside0.mk (below_step bl_ hb); have n1_ := Aside0.mk (hbox); have n2_ := Aside0.mk ((by rw [hg]; exact (below_size bl_) : w.heap.size ≤ gb183)); have n3_ := Aside0.mk ((by rw [hg]; exact (below_size bl_) : w.heap.size ≤ gb183)); clear HB; have HB := n0_; have BK183 := n1_; have GW183 := n2_; have GE183 := n3_; clear n0_ n1_ n2_ n3_; clear hb hbox hg))
 (try simp only [Act.put, List.setIfInBounds_toArray, List.set_cons_zero, List.set_cons_succ])
 go_cut [20] (fun v20 wc => ∃ (kq : Nat) (x20_4 : Bool), v20 = .bool x20_4 ∧ Aside0 (fresh_Build.j0 kq a0 a1 a2 l3 x20_4 = some (r1, r2, r3, r4, r5, r6)) ∧ Aside0 (kq ≤ k) ∧ Aside0 (wc.heap[gb183]? = some (.cells #[.string (⟨#[]⟩ : ByteArray), .int .u64 0, .int .i64 0, .string (⟨#[]⟩ : ByteArray), .string (⟨#[]⟩ : ByteArray)] 24 (0, 0))) ∧ Aside0 (Below w.heap.size w wc))
 case first =>
  have H := HC5.out
  clear HC5
  replace H := Option.bind_eq_some_iff.mp H
  obtain ⟨t184, A70, H⟩ := H
  try dsimp only at H
  have A7 := Aside0.mk A70
  clear A70
  by_cases c8 : t184 = 0
  ·rw [if_pos c8] at H
   have c8b0 : (t184 == 0) = true := beq_iff_eq.mpr c8
   have c8b1 : (t184 != 0) = false := bne_eq_false_iff_eq.mpr c8
   clear c8
   (first | rw [c8b0] | (simp only [i64_w, i32_w]; rw [c8b0]) | rw [c8b1] | skip)
   have H' := Aside0.mk H
   clear H
   go_wp2_with (first | ((with_reducible refine gate_callee (f := 21) rfl ?_); refine gL (some 14) Tryz.func21 #[.string a0] rfl ?_; (with_reducible refine (term_Kind.calls a0 t184 _ A7.out).mono ?_); rintro e w9 ⟨rfl, hb⟩; refine ⟨_, rfl, ?_⟩; have n0_ := Aside0.mk (blk_below (g := gb183) (o := .cells #[.string (⟨#[]⟩ : ByteArray), .int .u64 0, .int .i64 0, .string (⟨#[]⟩ : ByteArray), .string (⟨#[]⟩ : ByteArray)] 24 (0, 0)) kl_ hb); have n1_ := Aside0.mk (below_step bl_ hb); clear BK183; clear HB; have BK183 := n0_; have HB := n1_; clear n0_ n1_; (try clear hb)))
   go_meet
   case rel => exact ⟨_, (true), es_, H', ⟨by first | omega | exact Nat.le_refl _⟩, ⟨kl_⟩, ⟨bl_⟩⟩
  ·rw [if_neg c8] at H
   have c8b0 : (t184 == 0) = false := beq_eq_false_iff_ne.mpr c8
   have c8b1 : (t184 != 0) = true := bne_iff_ne.mpr c8
   (first | rw [c8b0] | (simp only [i64_w, i32_w]; rw [c8b0]) | rw [c8b1] | skip)
   replace H := Option.bind_eq_some_iff.mp H
   obtain ⟨t185, A100, H⟩ := H
   try dsimp only at H
   have A10 := Aside0.mk A100
   clear A100
   have H' := Aside0.mk H
   clear H
   go_wp2_with (first | ((with_reducible refine gate_callee (f := 21) rfl ?_); refine gL (some 14) Tryz.func21 #[.string a0] rfl ?_; (with_reducible refine (term_Kind.calls a0 t184 _ A7.out).mono ?_); rintro e w11 ⟨rfl, hb⟩; refine ⟨_, rfl, ?_⟩; have n0_ := Aside0.mk (blk_below (g := gb183) (o := .cells #[.string (⟨#[]⟩ : ByteArray), .int .u64 0, .int .i64 0, .string (⟨#[]⟩ : ByteArray), .string (⟨#[]⟩ : ByteArray)] 24 (0, 0)) kl_ hb); have n1_ := Aside0.mk (below_step bl_ hb); clear BK183; clear HB; have BK183 := n0_; have HB := n1_; clear n0_ n1_; (try clear hb)) | (go_at_call 22; (with_reducible refine (name_Right.calls k a1 t185 _ A10.out ?sidev).mono ?_); (case sidev => exact Laid8.below HV.out bl_); rintro e w12 ⟨rfl, hb⟩; have n0_ := Aside0.mk (blk_below (g := gb183) (o := .cells #[.string (⟨#[]⟩ : ByteArray), .int .u64 0, .int .i64 0, .string (⟨#[]⟩ : ByteArray), .string (⟨#[]⟩ : ByteArray)] 24 (0, 0)) kl_ hb); have n1_ := Aside0.mk (below_step bl_ hb); clear BK183; clear HB; have BK183 := n0_; have HB := n1_; clear n0_ n1_; (try clear hb)))
   go_meet
   case rel => exact ⟨_, (!t185), es_, H', ⟨by first | omega | exact Nat.le_refl _⟩, ⟨kl_⟩, ⟨bl_⟩⟩
 case rest =>
  clear HC5
  try clear c2
  try clear p2
  try clear c3
  try clear c7
  try clear c8
  try clear c8b0
  try clear c8b1
  obtain ⟨kq, x20_4, rfl, HA, HJ4, BK183, HB⟩ := hcut
  cases kq with
  | zero => exact absurd HA.out (by simp [fresh_Build.j0])
  | succ kj4 =>
   have H := HA.out
   clear HA
   simp only [fresh_Build.j0] at H
   by_cases c13 : x20_4 = true
   ·subst c13
    rw [if_pos rfl] at H
    simp only [Option.some.injEq, Prod.mk.injEq] at H
    obtain ⟨rfl, rfl, rfl, rfl, rfl, rfl⟩ := H
    have hcz14_0 : wc.cell? ⟨gb183, 0, none⟩ = some (.string (⟨#[]⟩ : ByteArray)) := (blk_cell BK183.out 0).trans rfl
    have hcz14_1 : wc.cell? ⟨gb183, 1, none⟩ = some (.int .u64 0) := (blk_cell BK183.out 1).trans rfl
    have hcz14_2 : wc.cell? ⟨gb183, 2, none⟩ = some (.int .i64 0) := (blk_cell BK183.out 2).trans rfl
    have hcz14_3 : wc.cell? ⟨gb183, 3, none⟩ = some (.string (⟨#[]⟩ : ByteArray)) := (blk_cell BK183.out 3).trans rfl
    have hcz14_4 : wc.cell? ⟨gb183, 4, none⟩ = some (.string (⟨#[]⟩ : ByteArray)) := (blk_cell BK183.out 4).trans rfl
    have hfz14_0 := blk_frozen BK183.out 0
    have hfz14_1 := blk_frozen BK183.out 1
    have hfz14_2 := blk_frozen BK183.out 2
    have hfz14_3 := blk_frozen BK183.out 3
    have hfz14_4 := blk_frozen BK183.out 4
    go_wp2
    refine bodyPost_ret (results_ct rfl _ _ gb183 24 #[.string (⟨#[]⟩ : ByteArray), .int .u64 0, .int .i64 0, .string (⟨#[]⟩ : ByteArray), .string (⟨#[]⟩ : ByteArray)] (0, 0) _ rfl (by (with_reducible repeat (first | refine blk_drewN ?_ _ | refine blk_drew ?_ | refine blk_alloc ?_ _)); refine blk_put (cs := #[.string (⟨#[]⟩ : ByteArray), .int .u64 0, .int .i64 0, .string (⟨#[]⟩ : ByteArray), .string (⟨#[]⟩ : ByteArray)]) ?_ 4 _ rfl; (with_reducible repeat (first | refine blk_drewN ?_ _ | refine blk_drew ?_ | refine blk_alloc ?_ _)); refine blk_put (cs := #[.string (⟨#[]⟩ : ByteArray), .int .u64 0, .int .i64 0, .string (⟨#[]⟩ : ByteArray), .string (⟨#[]⟩ : ByteArray)]) ?_ 3 _ rfl; (with_reducible repeat (first | refine blk_drewN ?_ _ | refine blk_drew ?_ | refine blk_alloc ?_ _)); refine blk_put (cs := #[.string (⟨#[]⟩ : ByteArray), .int .u64 0, .int .i64 0, .string (⟨#[]⟩ : ByteArray), .string (⟨#[]⟩ : ByteArray)]) ?_ 2 _ rfl; (with_reducible repeat (first | refine blk_drewN ?_ _ | refine blk_drew ?_ | refine blk_alloc ?_ _)); refine blk_put (cs := #[.string (⟨#[]⟩ : ByteArray), .int .u64 0, .int .i64 0, .string (⟨#[]⟩ : ByteArray), .string (⟨#[]⟩ : ByteArray)]) ?_ 1 _ rfl; (with_reducible repeat (first | refine blk_drewN ?_ _ | refine blk_drew ?_ | refine blk_alloc ?_ _)); refine blk_put (cs := #[.string (⟨#[]⟩ : ByteArray), .int .u64 0, .int .i64 0, .string (⟨#[]⟩ : ByteArray), .string (⟨#[]⟩ : ByteArray)]) ?_ 0 _ rfl; (with_reducible repeat (first | refine blk_drewN ?_ _ | refine blk_drew ?_ | refine blk_alloc ?_ _)); exact BK183.out) Tryz.underlying24 rfl (by kernel_rfl)) rfl ?_
    exact ⟨eq_, bl_⟩
   ·replace c13 := Bool.eq_false_iff.mpr c13
    subst c13
    rw [if_neg (show ¬ (false = true) by decide)] at H
    replace H := Option.bind_eq_some_iff.mp H
    obtain ⟨⟨t187, t188⟩, A150, H⟩ := H
    try dsimp only at H
    have A15 := Aside0.mk A150
    clear A150
    have HC16 := Aside0.mk H
    clear H
    go_upto_if 34 with (first | ((with_reducible refine gate_dst (N := 10) rfl ?_); refine box_event ?hg (N := 10) ?hd (cs := #[.string (⟨#[]⟩ : ByteArray), .int .u64 0, .int .i64 0, .string (⟨#[]⟩ : ByteArray), .string (⟨#[]⟩ : ByteArray)]) (t := 24) ?hr ?_; (case hd => rfl); (case hg => rfl); (case hr => first | (go_simp; done) | (go_simp; rfl)); intro gb186 hg w17 hbox hb; have n0_ := Aside0.mk (blk_below (g := gb183) (o := .cells #[.string (⟨#[]⟩ : ByteArray), .int .u64 0, .int .i64 0, .string (⟨#[]⟩ : ByteArray), .string (⟨#[]⟩ : ByteArray)] 24 (0, 0)) kl_ hb); have n1_ := Aside0.mk (below_step bl_ hb); have n2_ := Aside0.mk (hbox); have n3_ := Aside0.mk ((by rw [hg]; exact (below_size bl_) : w.heap.size ≤ gb186)); have n4_ := Aside0.mk ((by rw [hg]; exact (below_size bl_) : w.heap.size ≤ gb186)); have n5_ := Aside0.mk ((by rw [hg]; exact Nat.ne_of_lt (blk_lt (g := gb183) (o := .cells #[.string (⟨#[]⟩ : ByteArray), .int .u64 0, .int .i64 0, .string (⟨#[]⟩ : ByteArray), .string (⟨#[]⟩ : ByteArray)] 24 (0, 0)) kl_) : gb183 ≠ gb186)); have n6_ := Aside0.mk ((by rw [hg]; exact Nat.ne_of_gt (blk_lt (g := gb183) (o := .cells #[.string (⟨#[]⟩ : ByteArray), .int .u64 0, .int .i64 0, .string (⟨#[]⟩ : ByteArray), .string (⟨#[]⟩ : ByteArray)] 24 (0, 0)) kl_) : gb186 ≠ gb183)); clear BK183; clear HB; have BK183 := n0_; have HB := n1_; have BK186 := n2_; have GW186 := n3_; have GE186 := n4_; have NB183_186 := n5_; have NB186_183 := n6_; clear n0_ n1_ n2_ n3_ n4_ n5_ n6_; clear hb hbox hg; have hnb18 := NB186_183.out; have hnc18 := NB183_186.out; have hcz19_0 : w17.cell? ⟨gb186, 0, none⟩ = some (.string (⟨#[]⟩ : ByteArray)) := (blk_cell BK186.out 0).trans rfl; have hcz19_1 : w17.cell? ⟨gb186, 1, none⟩ = some (.int .u64 0) := (blk_cell BK186.out 1).trans rfl; have hcz19_2 : w17.cell? ⟨gb186, 2, none⟩ = some (.int .i64 0) := (blk_cell BK186.out 2).trans rfl; have hcz19_3 : w17.cell? ⟨gb186, 3, none⟩ = some (.string (⟨#[]⟩ : ByteArray)) := (blk_cell BK186.out 3).trans rfl; have hcz19_4 : w17.cell? ⟨gb186, 4, none⟩ = some (.string (⟨#[]⟩ : ByteArray)) := (blk_cell BK186.out 4).trans rfl; have hfz19_0 := blk_frozen BK186.out 0; have hfz19_1 := blk_frozen BK186.out 1; have hfz19_2 := blk_frozen BK186.out 2; have hfz19_3 := blk_frozen BK186.out 3; have hfz19_4 := blk_frozen BK186.out 4) | ((with_reducible refine gate_callee (f := 23) rfl ?_); refine gL (some 28) Tryz.func23 #[.string (⟨#[]⟩ : ByteArray)] rfl ?_; (with_reducible refine (term_OfText.calls kj4 (⟨#[]⟩ : ByteArray) t187 t188 _ A15.out).mono ?_); rintro e w20 ⟨rfl, hb⟩; refine ⟨_, rfl, ?_⟩; have n0_ := Aside0.mk (blk_below (g := gb183) (o := .cells #[.string (⟨#[]⟩ : ByteArray), .int .u64 0, .int .i64 0, .string (⟨#[]⟩ : ByteArray), .string (⟨#[]⟩ : ByteArray)] 24 (0, 0)) (by (with_reducible repeat (first | refine blk_drewN ?_ _ | refine blk_drew ?_ | refine blk_alloc ?_ _)); refine blk_far ?_ NB183_186.out _; (with_reducible repeat (first | refine blk_drewN ?_ _ | refine blk_drew ?_ | refine blk_alloc ?_ _)); refine blk_far ?_ NB183_186.out _; (with_reducible repeat (first | refine blk_drewN ?_ _ | refine blk_drew ?_ | refine blk_alloc ?_ _)); refine blk_far ?_ NB183_186.out _; (with_reducible repeat (first | refine blk_drewN ?_ _ | refine blk_drew ?_ | refine blk_alloc ?_ _)); refine blk_far ?_ NB183_186.out _; (with_reducible repeat (first | refine blk_drewN ?_ _ | refine blk_drew ?_ | refine blk_alloc ?_ _)); refine blk_far ?_ NB183_186.out _; (with_reducible repeat (first | refine blk_drewN ?_ _ | refine blk_drew ?_ | refine blk_alloc ?_ _)); exact BK183.out) hb); have n1_ := Aside0.mk (blk_below (g := gb186) (o := .cells #[.string a1, .int .u64 a2, .int .i64 (l3.length : Int), .string (⟨#[]⟩ : ByteArray), .string (⟨#[]⟩ : ByteArray)] 24 (0, 0)) (by (with_reducible repeat (first | refine blk_drewN ?_ _ | refine blk_drew ?_ | refine blk_alloc ?_ _)); refine blk_put (cs := #[.string a1, .int .u64 a2, .int .i64 (l3.length : Int), .string (⟨#[]⟩ : ByteArray), .string (⟨#[]⟩ : ByteArray)]) ?_ 4 _ rfl; (with_reducible repeat (first | refine blk_drewN ?_ _ | refine blk_drew ?_ | refine blk_alloc ?_ _)); refine blk_put (cs := #[.string a1, .int .u64 a2, .int .i64 (l3.length : Int), .string (⟨#[]⟩ : ByteArray), .string (⟨#[]⟩ : ByteArray)]) ?_ 3 _ rfl; (with_reducible repeat (first | refine blk_drewN ?_ _ | refine blk_drew ?_ | refine blk_alloc ?_ _)); refine blk_put (cs := #[.string a1, .int .u64 a2, .int .i64 0, .string (⟨#[]⟩ : ByteArray), .string (⟨#[]⟩ : ByteArray)]) ?_ 2 _ rfl; (with_reducible repeat (first | refine blk_drewN ?_ _ | refine blk_drew ?_ | refine blk_alloc ?_ _)); refine blk_put (cs := #[.string a1, .int .u64 0, .int .i64 0, .string (⟨#[]⟩ : ByteArray), .string (⟨#[]⟩ : ByteArray)]) ?_ 1 _ rfl; (with_reducible repeat (first | refine blk_drewN ?_ _ | refine blk_drew ?_ | refine blk_alloc ?_ _)); refine blk_put (cs := #[.string (⟨#[]⟩ : ByteArray), .int .u64 0, .int .i64 0, .string (⟨#[]⟩ : ByteArray), .string (⟨#[]⟩ : ByteArray)]) ?_ 0 _ rfl; (with_reducible repeat (first | refine blk_drewN ?_ _ | refine blk_drew ?_ | refine blk_alloc ?_ _)); exact BK186.out) hb); have n2_ := Aside0.mk (below_step bl_ hb); clear BK183; clear BK186; clear HB; have BK183 := n0_; have BK186 := n1_; have HB := n2_; clear n0_ n1_ n2_; (try clear hb); have hcz21_0 : w20.cell? ⟨gb186, 0, none⟩ = some (.string a1) := (blk_cell BK186.out 0).trans rfl; have hcz21_1 : w20.cell? ⟨gb186, 1, none⟩ = some (.int .u64 a2) := (blk_cell BK186.out 1).trans rfl; have hcz21_2 : w20.cell? ⟨gb186, 2, none⟩ = some (.int .i64 (l3.length : Int)) := (blk_cell BK186.out 2).trans rfl; have hcz21_3 : w20.cell? ⟨gb186, 3, none⟩ = some (.string (⟨#[]⟩ : ByteArray)) := (blk_cell BK186.out 3).trans rfl; have hcz21_4 : w20.cell? ⟨gb186, 4, none⟩ = some (.string (⟨#[]⟩ : ByteArray)) := (blk_cell BK186.out 4).trans rfl; have hfz21_0 := blk_frozen BK186.out 0; have hfz21_1 := blk_frozen BK186.out 1; have hfz21_2 := blk_frozen BK186.out 2; have hfz21_3 := blk_frozen BK186.out 3; have hfz21_4 := blk_frozen BK186.out 4))
    (try simp only [Act.put, List.setIfInBounds_toArray, List.set_cons_zero, List.set_cons_succ])
    go_cut [11] (fun v11 wc => ∃ (kq : Nat) (x11_15 : Int) (x187003_15 : ByteArray), v11 = .int .i64 x11_15 ∧ Aside0 (fresh_Build.j1 kq a0 x11_15 a1 a2 (l3.length : Int) x187003_15 (⟨#[]⟩ : ByteArray) = some (r1, r2, r3, r4, r5, r6)) ∧ Aside0 (kq ≤ kj4) ∧ Aside0 (wc.heap[gb183]? = some (.cells #[.string (⟨#[]⟩ : ByteArray), .int .u64 0, .int .i64 0, .string (⟨#[]⟩ : ByteArray), .string (⟨#[]⟩ : ByteArray)] 24 (0, 0))) ∧ Aside0 (wc.heap[gb186]? = some (.cells #[.string a1, .int .u64 a2, .int .i64 (l3.length : Int), .string x187003_15, .string (⟨#[]⟩ : ByteArray)] 24 (0, 0))) ∧ Aside0 (Below w.heap.size w wc))
    case first =>
     have H := HC16.out
     clear HC16
     by_cases c22 : (l3.length : Int) > 0
     ·rw [if_pos c22] at H
      have c22b0 : decide (0 < (l3.length : Int)) = true := decide_eq_true c22
      have c22b1 : decide (0 < l3.length) = true := decide_eq_true (by omega)
      clear c22
      (first | rw [c22b0] | (simp only [i64_w, i32_w]; rw [c22b0]) | rw [c22b1] | skip)
      replace H := Option.bind_eq_some_iff.mp H
      obtain ⟨⟨t189, t190⟩, A230, H⟩ := H
      try dsimp only at H
      have A23 := Aside0.mk A230
      clear A230
      have H' := Aside0.mk H
      clear H
      go_wp2_with (first | ((with_reducible refine gate_callee (f := 24) rfl ?_); refine gL (some 37) Tryz.func24 #[.slice A3 l3.length c3] rfl ?_; (with_reducible refine (tree_Root.calls kj4 _ _ l3 t189 t190 _ ?side1 ?side2 A23.out).mono ?_); (case side1 => exact Kd.C_below HR3.out bl_); (case side2 => exact HC3.out); rintro e w24 ⟨rfl, hb⟩; refine ⟨_, rfl, ?_⟩; have n0_ := Aside0.mk (blk_below (g := gb183) (o := .cells #[.string (⟨#[]⟩ : ByteArray), .int .u64 0, .int .i64 0, .string (⟨#[]⟩ : ByteArray), .string (⟨#[]⟩ : ByteArray)] 24 (0, 0)) (by (with_reducible repeat (first | refine blk_drewN ?_ _ | refine blk_drew ?_ | refine blk_alloc ?_ _)); refine blk_far ?_ NB183_186.out _; (with_reducible repeat (first | refine blk_drewN ?_ _ | refine blk_drew ?_ | refine blk_alloc ?_ _)); exact BK183.out) hb); have n1_ := Aside0.mk (blk_below (g := gb186) (o := .cells #[.string a1, .int .u64 a2, .int .i64 (l3.length : Int), .string t187, .string (⟨#[]⟩ : ByteArray)] 24 (0, 0)) (by (with_reducible repeat (first | refine blk_drewN ?_ _ | refine blk_drew ?_ | refine blk_alloc ?_ _)); refine blk_put (cs := #[.string a1, .int .u64 a2, .int .i64 (l3.length : Int), .string (⟨#[]⟩ : ByteArray), .string (⟨#[]⟩ : ByteArray)]) ?_ 3 _ rfl; (with_reducible repeat (first | refine blk_drewN ?_ _ | refine blk_drew ?_ | refine blk_alloc ?_ _)); exact BK186.out) hb); have n2_ := Aside0.mk (below_step bl_ hb); clear BK183; clear BK186; clear HB; have BK183 := n0_; have BK186 := n1_; have HB := n2_; clear n0_ n1_ n2_; (try clear hb); have hnb25 := NB186_183.out; have hnc25 := NB183_186.out; have hcz26_0 : w24.cell? ⟨gb186, 0, none⟩ = some (.string a1) := (blk_cell BK186.out 0).trans rfl; have hcz26_1 : w24.cell? ⟨gb186, 1, none⟩ = some (.int .u64 a2) := (blk_cell BK186.out 1).trans rfl; have hcz26_2 : w24.cell? ⟨gb186, 2, none⟩ = some (.int .i64 (l3.length : Int)) := (blk_cell BK186.out 2).trans rfl; have hcz26_3 : w24.cell? ⟨gb186, 3, none⟩ = some (.string t187) := (blk_cell BK186.out 3).trans rfl; have hcz26_4 : w24.cell? ⟨gb186, 4, none⟩ = some (.string (⟨#[]⟩ : ByteArray)) := (blk_cell BK186.out 4).trans rfl; have hfz26_0 := blk_frozen BK186.out 0; have hfz26_1 := blk_frozen BK186.out 1; have hfz26_2 := blk_frozen BK186.out 2; have hfz26_3 := blk_frozen BK186.out 3; have hfz26_4 := blk_frozen BK186.out 4))
      go_meet
      case rel => exact ⟨_, (t190), (t189), es_, H', ⟨by have := HJ4.out; first | omega | exact Nat.le_refl _⟩, ⟨by (with_reducible repeat (first | refine blk_drewN ?_ _ | refine blk_drew ?_ | refine blk_alloc ?_ _)); refine blk_far ?_ NB183_186.out _; (with_reducible repeat (first | refine blk_drewN ?_ _ | refine blk_drew ?_ | refine blk_alloc ?_ _)); exact BK183.out⟩, ⟨by (with_reducible repeat (first | refine blk_drewN ?_ _ | refine blk_drew ?_ | refine blk_alloc ?_ _)); refine blk_put (cs := #[.string a1, .int .u64 a2, .int .i64 (l3.length : Int), .string t187, .string (⟨#[]⟩ : ByteArray)]) ?_ 3 _ rfl; (with_reducible repeat (first | refine blk_drewN ?_ _ | refine blk_drew ?_ | refine blk_alloc ?_ _)); exact BK186.out⟩, ⟨bl_⟩⟩
     ·rw [if_neg c22] at H
      have c22b0 : decide (0 < (l3.length : Int)) = false := decide_eq_false c22
      have c22b1 : decide (0 < l3.length) = false := decide_eq_false (by omega)
      clear c22
      (first | rw [c22b0] | (simp only [i64_w, i32_w]; rw [c22b0]) | rw [c22b1] | skip)
      have H' := Aside0.mk H
      clear H
      go_wp2
      go_meet
      case rel => exact ⟨_, (0), (t187), es_, H', ⟨by have := HJ4.out; first | omega | exact Nat.le_refl _⟩, ⟨by (with_reducible repeat (first | refine blk_drewN ?_ _ | refine blk_drew ?_ | refine blk_alloc ?_ _)); refine blk_far ?_ NB183_186.out _; (with_reducible repeat (first | refine blk_drewN ?_ _ | refine blk_drew ?_ | refine blk_alloc ?_ _)); exact BK183.out⟩, ⟨by (with_reducible repeat (first | refine blk_drewN ?_ _ | refine blk_drew ?_ | refine blk_alloc ?_ _)); refine blk_put (cs := #[.string a1, .int .u64 a2, .int .i64 (l3.length : Int), .string (⟨#[]⟩ : ByteArray), .string (⟨#[]⟩ : ByteArray)]) ?_ 3 _ rfl; (with_reducible repeat (first | refine blk_drewN ?_ _ | refine blk_drew ?_ | refine blk_alloc ?_ _)); exact BK186.out⟩, ⟨bl_⟩⟩
    case rest =>
     clear HC16
     try clear c1
     try clear c2
     try clear p2
     try clear c3
     try clear c7
     try clear c8
     try clear c8b0
     try clear c8b1
     try clear c13
     try clear c18
     try clear c21
     try clear c22
     try clear c22b0
     try clear c22b1
     try clear c23
     try clear c24
     try clear c25
     try clear hcz14_0
     try clear hcz14_1
     try clear hcz14_2
     try clear hcz14_3
     try clear hcz14_4
     try clear hcz19_0
     try clear hcz19_1
     try clear hcz19_2
     try clear hcz19_3
     try clear hcz19_4
     try clear hcz21_0
     try clear hcz21_1
     try clear hcz21_2
     try clear hcz21_3
     try clear hcz21_4
     try clear hcz26_0
     try clear hcz26_1
     try clear hcz26_2
     try clear hcz26_3
     try clear hcz26_4
     try clear hfz14_0
     try clear hfz14_1
     try clear hfz14_2
     try clear hfz14_3
     try clear hfz14_4
     try clear hfz19_0
     try clear hfz19_1
     try clear hfz19_2
     try clear hfz19_3
     try clear hfz19_4
     try clear hfz21_0
     try clear hfz21_1
     try clear hfz21_2
     try clear hfz21_3
     try clear hfz21_4
     try clear hfz26_0
     try clear hfz26_1
     try clear hfz26_2
     try clear hfz26_3
     try clear hfz26_4
     try clear p2
     obtain ⟨kq, x11_15, x187003_15, rfl, HA, HJ15, BK183, BK186, HB⟩ := hcut
     cases kq with
     | zero => exact absurd HA.out (by simp [fresh_Build.j1])
     | succ kj15 =>
      have H := HA.out
      clear HA
      simp only [fresh_Build.j1] at H
      have HC27 := Aside0.mk H
      clear H
      go_upto_if 42 with (fail)
      go_cut [11, 12] (fun v11 v12 wc => ∃ (kq : Nat) (x11_26 : Int) (x12_26 : ByteArray), v11 = .int .i64 x11_26 ∧ v12 = .string x12_26 ∧ Aside0 (fresh_Build.j2 kq a0 x11_26 x12_26 a1 a2 (l3.length : Int) x187003_15 (⟨#[]⟩ : ByteArray) = some (r1, r2, r3, r4, r5, r6)) ∧ Aside0 (kq ≤ kj15) ∧ Aside0 (wc.heap[gb183]? = some (.cells #[.string (⟨#[]⟩ : ByteArray), .int .u64 0, .int .i64 0, .string (⟨#[]⟩ : ByteArray), .string (⟨#[]⟩ : ByteArray)] 24 (0, 0))) ∧ Aside0 (wc.heap[gb186]? = some (.cells #[.string a1, .int .u64 a2, .int .i64 (l3.length : Int), .string x187003_15, .string (⟨#[]⟩ : ByteArray)] 24 (0, 0))) ∧ Aside0 (Below w.heap.size w wc))
      case first =>
       have H := HC27.out
       clear HC27
       by_cases c28 : x11_15 = 0
       ·rw [if_pos c28] at H
        have c28b0 : (x11_15 == 0) = true := beq_iff_eq.mpr c28
        have c28b1 : (x11_15 != 0) = false := bne_eq_false_iff_eq.mpr c28
        clear c28
        (first | rw [c28b0] | (simp only [i64_w, i32_w]; rw [c28b0]) | rw [c28b1] | skip)
        replace H := Option.bind_eq_some_iff.mp H
        obtain ⟨⟨t191, t192⟩, A290, H⟩ := H
        try dsimp only at H
        have A29 := Aside0.mk A290
        clear A290
        have H' := Aside0.mk H
        clear H
        have hnb30 := NB186_183.out
        have hnc30 := NB183_186.out
        have hcz31_0 : wc.cell? ⟨gb186, 0, none⟩ = some (.string a1) := (blk_cell BK186.out 0).trans rfl
        have hcz31_1 : wc.cell? ⟨gb186, 1, none⟩ = some (.int .u64 a2) := (blk_cell BK186.out 1).trans rfl
        have hcz31_2 : wc.cell? ⟨gb186, 2, none⟩ = some (.int .i64 (l3.length : Int)) := (blk_cell BK186.out 2).trans rfl
        have hcz31_3 : wc.cell? ⟨gb186, 3, none⟩ = some (.string x187003_15) := (blk_cell BK186.out 3).trans rfl
        have hcz31_4 : wc.cell? ⟨gb186, 4, none⟩ = some (.string (⟨#[]⟩ : ByteArray)) := (blk_cell BK186.out 4).trans rfl
        have hfz31_0 := blk_frozen BK186.out 0
        have hfz31_1 := blk_frozen BK186.out 1
        have hfz31_2 := blk_frozen BK186.out 2
        have hfz31_3 := blk_frozen BK186.out 3
        have hfz31_4 := blk_frozen BK186.out 4
        go_wp2_with (first | ((with_reducible refine gate_callee (f := 25) rfl ?_); refine gL (some 45) Tryz.func25 #[.agg #[.string a1, .int .u64 a2, .int .i64 (l3.length : Int), .string x187003_15, .string (⟨#[]⟩ : ByteArray)]] rfl ?_; (with_reducible refine (fresh_signed.calls kj15 a1 a2 (l3.length : Int) x187003_15 (⟨#[]⟩ : ByteArray) t191 t192 _ A29.out).mono ?_); rintro e w32 ⟨rfl, hb⟩; refine ⟨_, rfl, ?_⟩; have n0_ := Aside0.mk (blk_below (g := gb183) (o := .cells #[.string (⟨#[]⟩ : ByteArray), .int .u64 0, .int .i64 0, .string (⟨#[]⟩ : ByteArray), .string (⟨#[]⟩ : ByteArray)] 24 (0, 0)) kl_ hb); have n1_ := Aside0.mk (blk_below (g := gb186) (o := .cells #[.string a1, .int .u64 a2, .int .i64 (l3.length : Int), .string x187003_15, .string (⟨#[]⟩ : ByteArray)] 24 (0, 0)) kl_ hb); have n2_ := Aside0.mk (below_step bl_ hb); clear BK183; clear BK186; clear HB; have BK183 := n0_; have BK186 := n1_; have HB := n2_; clear n0_ n1_ n2_; (try clear hb)))
        go_meet
        case rel => exact ⟨_, (t192), (t191), es_, es_, H', ⟨by have := HJ4.out; have := HJ15.out; first | omega | exact Nat.le_refl _⟩, ⟨kl_⟩, ⟨kl_⟩, ⟨bl_⟩⟩
       ·rw [if_neg c28] at H
        have c28b0 : (x11_15 == 0) = false := beq_eq_false_iff_ne.mpr c28
        have c28b1 : (x11_15 != 0) = true := bne_iff_ne.mpr c28
        (first | rw [c28b0] | (simp only [i64_w, i32_w]; rw [c28b0]) | rw [c28b1] | skip)
        have H' := Aside0.mk H
        clear H
        go_wp2
        go_meet
        case rel => exact ⟨_, (x11_15), ((⟨#[]⟩ : ByteArray)), es_, es_, H', ⟨by have := HJ4.out; have := HJ15.out; first | omega | exact Nat.le_refl _⟩, ⟨kl_⟩, ⟨kl_⟩, ⟨bl_⟩⟩
      case rest =>
       clear HC27
       try clear c1
       try clear c2
       try clear p2
       try clear c3
       try clear c7
       try clear c8
       try clear c8b0
       try clear c8b1
       try clear c13
       try clear c18
       try clear c21
       try clear c22
       try clear c22b0
       try clear c22b1
       try clear c23
       try clear c24
       try clear c25
       try clear c28
       try clear c28b0
       try clear c28b1
       try clear c30
       try clear hcz14_0
       try clear hcz14_1
       try clear hcz14_2
       try clear hcz14_3
       try clear hcz14_4
       try clear hcz19_0
       try clear hcz19_1
       try clear hcz19_2
       try clear hcz19_3
       try clear hcz19_4
       try clear hcz21_0
       try clear hcz21_1
       try clear hcz21_2
       try clear hcz21_3
       try clear hcz21_4
       try clear hcz26_0
       try clear hcz26_1
       try clear hcz26_2
       try clear hcz26_3
       try clear hcz26_4
       try clear hcz31_0
       try clear hcz31_1
       try clear hcz31_2
       try clear hcz31_3
       try clear hcz31_4
       try clear hfz14_0
       try clear hfz14_1
       try clear hfz14_2
       try clear hfz14_3
       try clear hfz14_4
       try clear hfz19_0
       try clear hfz19_1
       try clear hfz19_2
       try clear hfz19_3
       try clear hfz19_4
       try clear hfz21_0
       try clear hfz21_1
       try clear hfz21_2
       try clear hfz21_3
       try clear hfz21_4
       try clear hfz26_0
       try clear hfz26_1
       try clear hfz26_2
       try clear hfz26_3
       try clear hfz26_4
       try clear hfz31_0
       try clear hfz31_1
       try clear hfz31_2
       try clear hfz31_3
       try clear hfz31_4
       try clear p2
       obtain ⟨kq, x11_26, x12_26, rfl, rfl, HA, HJ26, BK183, BK186, HB⟩ := hcut
       cases kq with
       | zero => exact absurd HA.out (by simp [fresh_Build.j2])
       | succ kj26 =>
        have H := HA.out
        clear HA
        simp only [fresh_Build.j2] at H
        by_cases c33 : x11_26 = 0
        ·rw [if_pos c33] at H
         have c33b0 : (x11_26 == 0) = true := beq_iff_eq.mpr c33
         have c33b1 : (x11_26 != 0) = false := bne_eq_false_iff_eq.mpr c33
         clear c33
         replace H := Option.bind_eq_some_iff.mp H
         obtain ⟨⟨t193, t194⟩, A340, H⟩ := H
         try dsimp only at H
         have A34 := Aside0.mk A340
         clear A340
         by_cases c35 : t194 = 0
         ·rw [if_pos c35] at H
          have c35b0 : (t194 == 0) = true := beq_iff_eq.mpr c35
          have c35b1 : (t194 != 0) = false := bne_eq_false_iff_eq.mpr c35
          clear c35
          simp only [Option.some.injEq, Prod.mk.injEq] at H
          obtain ⟨rfl, rfl, rfl, rfl, rfl, rfl⟩ := H
          go_wp2_with (first | ((with_reducible refine gate_callee (f := 26) rfl ?_); refine gL (some 53) Tryz.func26 #[.string a0, .string x12_26] rfl ?_; (with_reducible refine (term_Sign.calls a0 x12_26 t193 t194 _ A34.out).mono ?_); rintro e w36 ⟨rfl, hb⟩; refine ⟨_, rfl, ?_⟩; have n0_ := Aside0.mk (blk_below (g := gb183) (o := .cells #[.string (⟨#[]⟩ : ByteArray), .int .u64 0, .int .i64 0, .string (⟨#[]⟩ : ByteArray), .string (⟨#[]⟩ : ByteArray)] 24 (0, 0)) kl_ hb); have n1_ := Aside0.mk (blk_below (g := gb186) (o := .cells #[.string a1, .int .u64 a2, .int .i64 (l3.length : Int), .string x187003_15, .string (⟨#[]⟩ : ByteArray)] 24 (0, 0)) kl_ hb); have n2_ := Aside0.mk (below_step bl_ hb); clear BK183; clear BK186; clear HB; have BK183 := n0_; have BK186 := n1_; have HB := n2_; clear n0_ n1_ n2_; (try clear hb); have hnb37 := NB186_183.out; have hnc37 := NB183_186.out; have hcz38_0 : w36.cell? ⟨gb186, 0, none⟩ = some (.string a1) := (blk_cell BK186.out 0).trans rfl; have hcz38_1 : w36.cell? ⟨gb186, 1, none⟩ = some (.int .u64 a2) := (blk_cell BK186.out 1).trans rfl; have hcz38_2 : w36.cell? ⟨gb186, 2, none⟩ = some (.int .i64 (l3.length : Int)) := (blk_cell BK186.out 2).trans rfl; have hcz38_3 : w36.cell? ⟨gb186, 3, none⟩ = some (.string x187003_15) := (blk_cell BK186.out 3).trans rfl; have hcz38_4 : w36.cell? ⟨gb186, 4, none⟩ = some (.string (⟨#[]⟩ : ByteArray)) := (blk_cell BK186.out 4).trans rfl; have hfz38_0 := blk_frozen BK186.out 0; have hfz38_1 := blk_frozen BK186.out 1; have hfz38_2 := blk_frozen BK186.out 2; have hfz38_3 := blk_frozen BK186.out 3; have hfz38_4 := blk_frozen BK186.out 4; have hcz39_0 : w36.cell? ⟨gb183, 0, none⟩ = some (.string (⟨#[]⟩ : ByteArray)) := (blk_cell BK183.out 0).trans rfl; have hcz39_1 : w36.cell? ⟨gb183, 1, none⟩ = some (.int .u64 0) := (blk_cell BK183.out 1).trans rfl; have hcz39_2 : w36.cell? ⟨gb183, 2, none⟩ = some (.int .i64 0) := (blk_cell BK183.out 2).trans rfl; have hcz39_3 : w36.cell? ⟨gb183, 3, none⟩ = some (.string (⟨#[]⟩ : ByteArray)) := (blk_cell BK183.out 3).trans rfl; have hcz39_4 : w36.cell? ⟨gb183, 4, none⟩ = some (.string (⟨#[]⟩ : ByteArray)) := (blk_cell BK183.out 4).trans rfl; have hfz39_0 := blk_frozen BK183.out 0; have hfz39_1 := blk_frozen BK183.out 1; have hfz39_2 := blk_frozen BK183.out 2; have hfz39_3 := blk_frozen BK183.out 3; have hfz39_4 := blk_frozen BK183.out 4))
          refine bodyPost_ret (results_ct rfl _ _ gb183 24 #[.string a1, .int .u64 a2, .int .i64 (l3.length : Int), .string x187003_15, .string t193] (0, 0) _ rfl (by (with_reducible repeat (first | refine blk_drewN ?_ _ | refine blk_drew ?_ | refine blk_alloc ?_ _)); refine blk_put (cs := #[.string a1, .int .u64 a2, .int .i64 (l3.length : Int), .string x187003_15, .string (⟨#[]⟩ : ByteArray)]) ?_ 4 _ rfl; (with_reducible repeat (first | refine blk_drewN ?_ _ | refine blk_drew ?_ | refine blk_alloc ?_ _)); refine blk_put (cs := #[.string a1, .int .u64 a2, .int .i64 (l3.length : Int), .string (⟨#[]⟩ : ByteArray), .string (⟨#[]⟩ : ByteArray)]) ?_ 3 _ rfl; (with_reducible repeat (first | refine blk_drewN ?_ _ | refine blk_drew ?_ | refine blk_alloc ?_ _)); refine blk_put (cs := #[.string a1, .int .u64 a2, .int .i64 0, .string (⟨#[]⟩ : ByteArray), .string (⟨#[]⟩ : ByteArray)]) ?_ 2 _ rfl; (with_reducible repeat (first | refine blk_drewN ?_ _ | refine blk_drew ?_ | refine blk_alloc ?_ _)); refine blk_put (cs := #[.string a1, .int .u64 0, .int .i64 0, .string (⟨#[]⟩ : ByteArray), .string (⟨#[]⟩ : ByteArray)]) ?_ 1 _ rfl; (with_reducible repeat (first | refine blk_drewN ?_ _ | refine blk_drew ?_ | refine blk_alloc ?_ _)); refine blk_put (cs := #[.string (⟨#[]⟩ : ByteArray), .int .u64 0, .int .i64 0, .string (⟨#[]⟩ : ByteArray), .string (⟨#[]⟩ : ByteArray)]) ?_ 0 _ rfl; (with_reducible repeat (first | refine blk_drewN ?_ _ | refine blk_drew ?_ | refine blk_alloc ?_ _)); refine blk_far ?_ NB183_186.out _; (with_reducible repeat (first | refine blk_drewN ?_ _ | refine blk_drew ?_ | refine blk_alloc ?_ _)); exact BK183.out) Tryz.underlying24 rfl (by kernel_rfl)) rfl ?_
          exact ⟨eq_, bl_⟩
         ·rw [if_neg c35] at H
          have c35b0 : (t194 == 0) = false := beq_eq_false_iff_ne.mpr c35
          have c35b1 : (t194 != 0) = true := bne_iff_ne.mpr c35
          simp only [Option.some.injEq, Prod.mk.injEq] at H
          obtain ⟨rfl, rfl, rfl, rfl, rfl, rfl⟩ := H
          go_wp2_with (first | ((with_reducible refine gate_callee (f := 26) rfl ?_); refine gL (some 53) Tryz.func26 #[.string a0, .string x12_26] rfl ?_; (with_reducible refine (term_Sign.calls a0 x12_26 t193 t194 _ A34.out).mono ?_); rintro e w40 ⟨rfl, hb⟩; refine ⟨_, rfl, ?_⟩; have n0_ := Aside0.mk (blk_below (g := gb183) (o := .cells #[.string (⟨#[]⟩ : ByteArray), .int .u64 0, .int .i64 0, .string (⟨#[]⟩ : ByteArray), .string (⟨#[]⟩ : ByteArray)] 24 (0, 0)) kl_ hb); have n1_ := Aside0.mk (blk_below (g := gb186) (o := .cells #[.string a1, .int .u64 a2, .int .i64 (l3.length : Int), .string x187003_15, .string (⟨#[]⟩ : ByteArray)] 24 (0, 0)) kl_ hb); have n2_ := Aside0.mk (below_step bl_ hb); clear BK183; clear BK186; clear HB; have BK183 := n0_; have BK186 := n1_; have HB := n2_; clear n0_ n1_ n2_; (try clear hb); have hnb41 := NB186_183.out; have hnc41 := NB183_186.out; have hcz42_0 : w40.cell? ⟨gb186, 0, none⟩ = some (.string a1) := (blk_cell BK186.out 0).trans rfl; have hcz42_1 : w40.cell? ⟨gb186, 1, none⟩ = some (.int .u64 a2) := (blk_cell BK186.out 1).trans rfl; have hcz42_2 : w40.cell? ⟨gb186, 2, none⟩ = some (.int .i64 (l3.length : Int)) := (blk_cell BK186.out 2).trans rfl; have hcz42_3 : w40.cell? ⟨gb186, 3, none⟩ = some (.string x187003_15) := (blk_cell BK186.out 3).trans rfl; have hcz42_4 : w40.cell? ⟨gb186, 4, none⟩ = some (.string (⟨#[]⟩ : ByteArray)) := (blk_cell BK186.out 4).trans rfl; have hfz42_0 := blk_frozen BK186.out 0; have hfz42_1 := blk_frozen BK186.out 1; have hfz42_2 := blk_frozen BK186.out 2; have hfz42_3 := blk_frozen BK186.out 3; have hfz42_4 := blk_frozen BK186.out 4; have hcz43_0 : w40.cell? ⟨gb183, 0, none⟩ = some (.string (⟨#[]⟩ : ByteArray)) := (blk_cell BK183.out 0).trans rfl; have hcz43_1 : w40.cell? ⟨gb183, 1, none⟩ = some (.int .u64 0) := (blk_cell BK183.out 1).trans rfl; have hcz43_2 : w40.cell? ⟨gb183, 2, none⟩ = some (.int .i64 0) := (blk_cell BK183.out 2).trans rfl; have hcz43_3 : w40.cell? ⟨gb183, 3, none⟩ = some (.string (⟨#[]⟩ : ByteArray)) := (blk_cell BK183.out 3).trans rfl; have hcz43_4 : w40.cell? ⟨gb183, 4, none⟩ = some (.string (⟨#[]⟩ : ByteArray)) := (blk_cell BK183.out 4).trans rfl; have hfz43_0 := blk_frozen BK183.out 0; have hfz43_1 := blk_frozen BK183.out 1; have hfz43_2 := blk_frozen BK183.out 2; have hfz43_3 := blk_frozen BK183.out 3; have hfz43_4 := blk_frozen BK183.out 4))
          refine bodyPost_ret (results_ct rfl _ _ gb183 24 #[.string (⟨#[]⟩ : ByteArray), .int .u64 0, .int .i64 0, .string (⟨#[]⟩ : ByteArray), .string (⟨#[]⟩ : ByteArray)] (0, 0) _ rfl (by (with_reducible repeat (first | refine blk_drewN ?_ _ | refine blk_drew ?_ | refine blk_alloc ?_ _)); refine blk_put (cs := #[.string (⟨#[]⟩ : ByteArray), .int .u64 0, .int .i64 0, .string (⟨#[]⟩ : ByteArray), .string (⟨#[]⟩ : ByteArray)]) ?_ 4 _ rfl; (with_reducible repeat (first | refine blk_drewN ?_ _ | refine blk_drew ?_ | refine blk_alloc ?_ _)); refine blk_put (cs := #[.string (⟨#[]⟩ : ByteArray), .int .u64 0, .int .i64 0, .string (⟨#[]⟩ : ByteArray), .string (⟨#[]⟩ : ByteArray)]) ?_ 3 _ rfl; (with_reducible repeat (first | refine blk_drewN ?_ _ | refine blk_drew ?_ | refine blk_alloc ?_ _)); refine blk_put (cs := #[.string (⟨#[]⟩ : ByteArray), .int .u64 0, .int .i64 0, .string (⟨#[]⟩ : ByteArray), .string (⟨#[]⟩ : ByteArray)]) ?_ 2 _ rfl; (with_reducible repeat (first | refine blk_drewN ?_ _ | refine blk_drew ?_ | refine blk_alloc ?_ _)); refine blk_put (cs := #[.string (⟨#[]⟩ : ByteArray), .int .u64 0, .int .i64 0, .string (⟨#[]⟩ : ByteArray), .string (⟨#[]⟩ : ByteArray)]) ?_ 1 _ rfl; (with_reducible repeat (first | refine blk_drewN ?_ _ | refine blk_drew ?_ | refine blk_alloc ?_ _)); refine blk_put (cs := #[.string (⟨#[]⟩ : ByteArray), .int .u64 0, .int .i64 0, .string (⟨#[]⟩ : ByteArray), .string (⟨#[]⟩ : ByteArray)]) ?_ 0 _ rfl; (with_reducible repeat (first | refine blk_drewN ?_ _ | refine blk_drew ?_ | refine blk_alloc ?_ _)); refine blk_far ?_ NB183_186.out _; (with_reducible repeat (first | refine blk_drewN ?_ _ | refine blk_drew ?_ | refine blk_alloc ?_ _)); exact BK183.out) Tryz.underlying24 rfl (by kernel_rfl)) rfl ?_
          exact ⟨eq_, bl_⟩
        ·rw [if_neg c33] at H
         have c33b0 : (x11_26 == 0) = false := beq_eq_false_iff_ne.mpr c33
         have c33b1 : (x11_26 != 0) = true := bne_iff_ne.mpr c33
         simp only [Option.some.injEq, Prod.mk.injEq] at H
         obtain ⟨rfl, rfl, rfl, rfl, rfl, rfl⟩ := H
         have hnb44 := NB183_186.out
         have hnc44 := NB186_183.out
         have hcz45_0 : wc.cell? ⟨gb183, 0, none⟩ = some (.string (⟨#[]⟩ : ByteArray)) := (blk_cell BK183.out 0).trans rfl
         have hcz45_1 : wc.cell? ⟨gb183, 1, none⟩ = some (.int .u64 0) := (blk_cell BK183.out 1).trans rfl
         have hcz45_2 : wc.cell? ⟨gb183, 2, none⟩ = some (.int .i64 0) := (blk_cell BK183.out 2).trans rfl
         have hcz45_3 : wc.cell? ⟨gb183, 3, none⟩ = some (.string (⟨#[]⟩ : ByteArray)) := (blk_cell BK183.out 3).trans rfl
         have hcz45_4 : wc.cell? ⟨gb183, 4, none⟩ = some (.string (⟨#[]⟩ : ByteArray)) := (blk_cell BK183.out 4).trans rfl
         have hfz45_0 := blk_frozen BK183.out 0
         have hfz45_1 := blk_frozen BK183.out 1
         have hfz45_2 := blk_frozen BK183.out 2
         have hfz45_3 := blk_frozen BK183.out 3
         have hfz45_4 := blk_frozen BK183.out 4
         go_wp2
         refine bodyPost_ret (results_ct rfl _ _ gb183 24 #[.string (⟨#[]⟩ : ByteArray), .int .u64 0, .int .i64 0, .string (⟨#[]⟩ : ByteArray), .string (⟨#[]⟩ : ByteArray)] (0, 0) _ rfl (by (with_reducible repeat (first | refine blk_drewN ?_ _ | refine blk_drew ?_ | refine blk_alloc ?_ _)); refine blk_put (cs := #[.string (⟨#[]⟩ : ByteArray), .int .u64 0, .int .i64 0, .string (⟨#[]⟩ : ByteArray), .string (⟨#[]⟩ : ByteArray)]) ?_ 4 _ rfl; (with_reducible repeat (first | refine blk_drewN ?_ _ | refine blk_drew ?_ | refine blk_alloc ?_ _)); refine blk_put (cs := #[.string (⟨#[]⟩ : ByteArray), .int .u64 0, .int .i64 0, .string (⟨#[]⟩ : ByteArray), .string (⟨#[]⟩ : ByteArray)]) ?_ 3 _ rfl; (with_reducible repeat (first | refine blk_drewN ?_ _ | refine blk_drew ?_ | refine blk_alloc ?_ _)); refine blk_put (cs := #[.string (⟨#[]⟩ : ByteArray), .int .u64 0, .int .i64 0, .string (⟨#[]⟩ : ByteArray), .string (⟨#[]⟩ : ByteArray)]) ?_ 2 _ rfl; (with_reducible repeat (first | refine blk_drewN ?_ _ | refine blk_drew ?_ | refine blk_alloc ?_ _)); refine blk_put (cs := #[.string (⟨#[]⟩ : ByteArray), .int .u64 0, .int .i64 0, .string (⟨#[]⟩ : ByteArray), .string (⟨#[]⟩ : ByteArray)]) ?_ 1 _ rfl; (with_reducible repeat (first | refine blk_drewN ?_ _ | refine blk_drew ?_ | refine blk_alloc ?_ _)); refine blk_put (cs := #[.string (⟨#[]⟩ : ByteArray), .int .u64 0, .int .i64 0, .string (⟨#[]⟩ : ByteArray), .string (⟨#[]⟩ : ByteArray)]) ?_ 0 _ rfl; (with_reducible repeat (first | refine blk_drewN ?_ _ | refine blk_drew ?_ | refine blk_alloc ?_ _)); exact BK183.out) Tryz.underlying24 rfl (by kernel_rfl)) rfl ?_
         exact ⟨eq_, bl_⟩
theorem fresh_Right.beqE (l : List UInt8) : (l == []) = l.isEmpty := by cases l <;> rfl
def fresh_Right.f (k : Nat) (a0_0 : ByteArray) (a0_1 : Int) (a0_2 : Int) (a0_3 : ByteArray) (a0_4 : ByteArray) : Option (Bool) := if (!(a0_0.toList == ([] : List UInt8)) || (!(a0_1 == 0) || (!(a0_2 == 0) || (!(a0_3.toList == ([] : List UInt8)) || (!(a0_4.toList == ([] : List UInt8))))))) = true then ((name_Right.f k a0_0).bind fun t196 => (if t196 = true then (if a0_2 ≥ 0 then (if a0_2 ≤ 8 then ((term_Kind.f a0_3).bind fun t197 => (if t197 = 0 then (some false) else ((term_Kind.f a0_4).bind fun t198 => (some (t198 == 103))))) else (some false)) else (some false)) else (some false))) else (some false)
set_option maxHeartbeats 8000000 in
set_option maxRecDepth 100000 in
theorem fresh_Right.calls (k : Nat) (a0_0 : ByteArray) (a0_1 : Int) (a0_2 : Int) (a0_3 : ByteArray) (a0_4 : ByteArray) (r : Bool) (w : World) (h : fresh_Right.f k a0_0 a0_1 a0_2 a0_3 a0_4 = some r) (hV : Laid8 w) :
  Calls Tryz.prog 13 #[.agg #[.string a0_0, .int .u64 a0_1, .int .i64 a0_2, .string a0_3, .string a0_4]] w fun e w' => e = .returned (.bool r) ∧ Below w.heap.size w w' := by
 have HV := Aside0.mk hV
 clear hV
 have hu24 := Tryz.underlying24
 have HB := Aside0.mk (Below.refl w.heap.size w)
 unfold fresh_Right.f at h
 have H := h
 clear h
 by_cases c2 : (!(a0_0.toList == ([] : List UInt8)) || (!(a0_1 == 0) || (!(a0_2 == 0) || (!(a0_3.toList == ([] : List UInt8)) || (!(a0_4.toList == ([] : List UInt8))))))) = true
 ·rw [if_pos c2] at H
  have c2b0 : (!(a0_0.toList == ([] : List UInt8)) || (!(a0_1 == 0) || (!(a0_2 == 0) || (!(a0_3.toList == ([] : List UInt8)) || (!(a0_4.toList == ([] : List UInt8))))))) = true := c2
  have c2e0 := c2b0
  simp only [fresh_Right.beqE] at c2e0
  clear c2
  replace H := Option.bind_eq_some_iff.mp H
  obtain ⟨t196, A30, H⟩ := H
  try dsimp only at H
  have A3 := Aside0.mk A30
  clear A30
  by_cases c4 : t196 = true
  ·subst c4
   rw [if_pos rfl] at H
   by_cases c5 : a0_2 ≥ 0
   ·rw [if_pos c5] at H
    have c5b0 : decide (0 ≤ a0_2) = true := decide_eq_true c5
    clear c5
    by_cases c6 : a0_2 ≤ 8
    ·rw [if_pos c6] at H
     have c6b0 : decide (a0_2 ≤ 8) = true := decide_eq_true c6
     clear c6
     replace H := Option.bind_eq_some_iff.mp H
     obtain ⟨t197, A70, H⟩ := H
     try dsimp only at H
     have A7 := Aside0.mk A70
     clear A70
     by_cases c8 : t197 = 0
     ·rw [if_pos c8] at H
      have c8b0 : (t197 == 0) = true := beq_iff_eq.mpr c8
      have c8b1 : (t197 != 0) = false := bne_eq_false_iff_eq.mpr c8
      clear c8
      obtain rfl := Option.some.inj H
      go_enter Tryz.func13, Tryz.ntmps13
      go_wp2_with (first | ((with_reducible refine gate_dst (N := 1) rfl ?_); refine box_event ?hg (N := 1) ?hd (cs := #[.string a0_0, .int .u64 a0_1, .int .i64 a0_2, .string a0_3, .string a0_4]) (t := 24) ?hr ?_; (case hd => rfl); (case hg => rfl); (case hr => first | (go_simp; done) | (go_simp; rfl)); intro gb195 hg w9 hbox hb; have n0_ := Aside0.mk (below_step bl_ hb); have n1_ := Aside0.mk (hbox); have n2_ := Aside0.mk ((by rw [hg]; exact (below_size bl_) : w.heap.size ≤ gb195)); have n3_ := Aside0.mk ((by rw [hg]; exact (below_size bl_) : w.heap.size ≤ gb195)); clear HB; have HB := n0_; have BK195 := n1_; have GW195 := n2_; have GE195 := n3_; clear n0_ n1_ n2_ n3_; clear hb hbox hg; have hcz10_0 : w9.cell? ⟨gb195, 0, none⟩ = some (.string a0_0) := (blk_cell BK195.out 0).trans rfl; have hcz10_1 : w9.cell? ⟨gb195, 1, none⟩ = some (.int .u64 a0_1) := (blk_cell BK195.out 1).trans rfl; have hcz10_2 : w9.cell? ⟨gb195, 2, none⟩ = some (.int .i64 a0_2) := (blk_cell BK195.out 2).trans rfl; have hcz10_3 : w9.cell? ⟨gb195, 3, none⟩ = some (.string a0_3) := (blk_cell BK195.out 3).trans rfl; have hcz10_4 : w9.cell? ⟨gb195, 4, none⟩ = some (.string a0_4) := (blk_cell BK195.out 4).trans rfl; have hfz10_0 := blk_frozen BK195.out 0; have hfz10_1 := blk_frozen BK195.out 1; have hfz10_2 := blk_frozen BK195.out 2; have hfz10_3 := blk_frozen BK195.out 3; have hfz10_4 := blk_frozen BK195.out 4) | (go_at_call 22; (with_reducible refine (name_Right.calls k a0_0 true _ A3.out ?sidev).mono ?_); (case sidev => exact Laid8.below HV.out bl_); rintro e w11 ⟨rfl, hb⟩; have n0_ := Aside0.mk (blk_below (g := gb195) (o := .cells #[.string a0_0, .int .u64 a0_1, .int .i64 a0_2, .string a0_3, .string a0_4] 24 (0, 0)) kl_ hb); have n1_ := Aside0.mk (below_step bl_ hb); clear BK195; clear HB; have BK195 := n0_; have HB := n1_; clear n0_ n1_; (try clear hb); have hcz12_0 : w11.cell? ⟨gb195, 0, none⟩ = some (.string a0_0) := (blk_cell BK195.out 0).trans rfl; have hcz12_1 : w11.cell? ⟨gb195, 1, none⟩ = some (.int .u64 a0_1) := (blk_cell BK195.out 1).trans rfl; have hcz12_2 : w11.cell? ⟨gb195, 2, none⟩ = some (.int .i64 a0_2) := (blk_cell BK195.out 2).trans rfl; have hcz12_3 : w11.cell? ⟨gb195, 3, none⟩ = some (.string a0_3) := (blk_cell BK195.out 3).trans rfl; have hcz12_4 : w11.cell? ⟨gb195, 4, none⟩ = some (.string a0_4) := (blk_cell BK195.out 4).trans rfl; have hfz12_0 := blk_frozen BK195.out 0; have hfz12_1 := blk_frozen BK195.out 1; have hfz12_2 := blk_frozen BK195.out 2; have hfz12_3 := blk_frozen BK195.out 3; have hfz12_4 := blk_frozen BK195.out 4) | (go_at_call 21; (with_reducible refine (term_Kind.calls a0_3 t197 _ A7.out).mono ?_); rintro e w13 ⟨rfl, hb⟩; have n0_ := Aside0.mk (blk_below (g := gb195) (o := .cells #[.string a0_0, .int .u64 a0_1, .int .i64 a0_2, .string a0_3, .string a0_4] 24 (0, 0)) kl_ hb); have n1_ := Aside0.mk (below_step bl_ hb); clear BK195; clear HB; have BK195 := n0_; have HB := n1_; clear n0_ n1_; (try clear hb)))
      go_ret
      exact ⟨eq_, bl_⟩
     ·rw [if_neg c8] at H
      have c8b0 : (t197 == 0) = false := beq_eq_false_iff_ne.mpr c8
      have c8b1 : (t197 != 0) = true := bne_iff_ne.mpr c8
      replace H := Option.bind_eq_some_iff.mp H
      obtain ⟨t198, A140, H⟩ := H
      try dsimp only at H
      have A14 := Aside0.mk A140
      clear A140
      obtain rfl := Option.some.inj H
      go_enter Tryz.func13, Tryz.ntmps13
      go_wp2_with (first | ((with_reducible refine gate_dst (N := 1) rfl ?_); refine box_event ?hg (N := 1) ?hd (cs := #[.string a0_0, .int .u64 a0_1, .int .i64 a0_2, .string a0_3, .string a0_4]) (t := 24) ?hr ?_; (case hd => rfl); (case hg => rfl); (case hr => first | (go_simp; done) | (go_simp; rfl)); intro gb195 hg w15 hbox hb; have n0_ := Aside0.mk (below_step bl_ hb); have n1_ := Aside0.mk (hbox); have n2_ := Aside0.mk ((by rw [hg]; exact (below_size bl_) : w.heap.size ≤ gb195)); have n3_ := Aside0.mk ((by rw [hg]; exact (below_size bl_) : w.heap.size ≤ gb195)); clear HB; have HB := n0_; have BK195 := n1_; have GW195 := n2_; have GE195 := n3_; clear n0_ n1_ n2_ n3_; clear hb hbox hg; have hcz16_0 : w15.cell? ⟨gb195, 0, none⟩ = some (.string a0_0) := (blk_cell BK195.out 0).trans rfl; have hcz16_1 : w15.cell? ⟨gb195, 1, none⟩ = some (.int .u64 a0_1) := (blk_cell BK195.out 1).trans rfl; have hcz16_2 : w15.cell? ⟨gb195, 2, none⟩ = some (.int .i64 a0_2) := (blk_cell BK195.out 2).trans rfl; have hcz16_3 : w15.cell? ⟨gb195, 3, none⟩ = some (.string a0_3) := (blk_cell BK195.out 3).trans rfl; have hcz16_4 : w15.cell? ⟨gb195, 4, none⟩ = some (.string a0_4) := (blk_cell BK195.out 4).trans rfl; have hfz16_0 := blk_frozen BK195.out 0; have hfz16_1 := blk_frozen BK195.out 1; have hfz16_2 := blk_frozen BK195.out 2; have hfz16_3 := blk_frozen BK195.out 3; have hfz16_4 := blk_frozen BK195.out 4) | (go_at_call 22; (with_reducible refine (name_Right.calls k a0_0 true _ A3.out ?sidev).mono ?_); (case sidev => exact Laid8.below HV.out bl_); rintro e w17 ⟨rfl, hb⟩; have n0_ := Aside0.mk (blk_below (g := gb195) (o := .cells #[.string a0_0, .int .u64 a0_1, .int .i64 a0_2, .string a0_3, .string a0_4] 24 (0, 0)) kl_ hb); have n1_ := Aside0.mk (below_step bl_ hb); clear BK195; clear HB; have BK195 := n0_; have HB := n1_; clear n0_ n1_; (try clear hb); have hcz18_0 : w17.cell? ⟨gb195, 0, none⟩ = some (.string a0_0) := (blk_cell BK195.out 0).trans rfl; have hcz18_1 : w17.cell? ⟨gb195, 1, none⟩ = some (.int .u64 a0_1) := (blk_cell BK195.out 1).trans rfl; have hcz18_2 : w17.cell? ⟨gb195, 2, none⟩ = some (.int .i64 a0_2) := (blk_cell BK195.out 2).trans rfl; have hcz18_3 : w17.cell? ⟨gb195, 3, none⟩ = some (.string a0_3) := (blk_cell BK195.out 3).trans rfl; have hcz18_4 : w17.cell? ⟨gb195, 4, none⟩ = some (.string a0_4) := (blk_cell BK195.out 4).trans rfl; have hfz18_0 := blk_frozen BK195.out 0; have hfz18_1 := blk_frozen BK195.out 1; have hfz18_2 := blk_frozen BK195.out 2; have hfz18_3 := blk_frozen BK195.out 3; have hfz18_4 := blk_frozen BK195.out 4) | (go_at_call 21; (with_reducible refine (term_Kind.calls a0_3 t197 _ A7.out).mono ?_); rintro e w19 ⟨rfl, hb⟩; have n0_ := Aside0.mk (blk_below (g := gb195) (o := .cells #[.string a0_0, .int .u64 a0_1, .int .i64 a0_2, .string a0_3, .string a0_4] 24 (0, 0)) kl_ hb); have n1_ := Aside0.mk (below_step bl_ hb); clear BK195; clear HB; have BK195 := n0_; have HB := n1_; clear n0_ n1_; (try clear hb); have hcz20_0 : w19.cell? ⟨gb195, 0, none⟩ = some (.string a0_0) := (blk_cell BK195.out 0).trans rfl; have hcz20_1 : w19.cell? ⟨gb195, 1, none⟩ = some (.int .u64 a0_1) := (blk_cell BK195.out 1).trans rfl; have hcz20_2 : w19.cell? ⟨gb195, 2, none⟩ = some (.int .i64 a0_2) := (blk_cell BK195.out 2).trans rfl; have hcz20_3 : w19.cell? ⟨gb195, 3, none⟩ = some (.string a0_3) := (blk_cell BK195.out 3).trans rfl; have hcz20_4 : w19.cell? ⟨gb195, 4, none⟩ = some (.string a0_4) := (blk_cell BK195.out 4).trans rfl; have hfz20_0 := blk_frozen BK195.out 0; have hfz20_1 := blk_frozen BK195.out 1; have hfz20_2 := blk_frozen BK195.out 2; have hfz20_3 := blk_frozen BK195.out 3; have hfz20_4 := blk_frozen BK195.out 4) | (go_at_call 21; (with_reducible refine (term_Kind.calls a0_4 t198 _ A14.out).mono ?_); rintro e w21 ⟨rfl, hb⟩; have n0_ := Aside0.mk (blk_below (g := gb195) (o := .cells #[.string a0_0, .int .u64 a0_1, .int .i64 a0_2, .string a0_3, .string a0_4] 24 (0, 0)) kl_ hb); have n1_ := Aside0.mk (below_step bl_ hb); clear BK195; clear HB; have BK195 := n0_; have HB := n1_; clear n0_ n1_; (try clear hb)))
      go_ret
      exact ⟨eq_, bl_⟩
    ·rw [if_neg c6] at H
     have c6b0 : decide (a0_2 ≤ 8) = false := decide_eq_false c6
     clear c6
     obtain rfl := Option.some.inj H
     go_enter Tryz.func13, Tryz.ntmps13
     go_wp2_with (first | ((with_reducible refine gate_dst (N := 1) rfl ?_); refine box_event ?hg (N := 1) ?hd (cs := #[.string a0_0, .int .u64 a0_1, .int .i64 a0_2, .string a0_3, .string a0_4]) (t := 24) ?hr ?_; (case hd => rfl); (case hg => rfl); (case hr => first | (go_simp; done) | (go_simp; rfl)); intro gb195 hg w22 hbox hb; have n0_ := Aside0.mk (below_step bl_ hb); have n1_ := Aside0.mk (hbox); have n2_ := Aside0.mk ((by rw [hg]; exact (below_size bl_) : w.heap.size ≤ gb195)); have n3_ := Aside0.mk ((by rw [hg]; exact (below_size bl_) : w.heap.size ≤ gb195)); clear HB; have HB := n0_; have BK195 := n1_; have GW195 := n2_; have GE195 := n3_; clear n0_ n1_ n2_ n3_; clear hb hbox hg; have hcz23_0 : w22.cell? ⟨gb195, 0, none⟩ = some (.string a0_0) := (blk_cell BK195.out 0).trans rfl; have hcz23_1 : w22.cell? ⟨gb195, 1, none⟩ = some (.int .u64 a0_1) := (blk_cell BK195.out 1).trans rfl; have hcz23_2 : w22.cell? ⟨gb195, 2, none⟩ = some (.int .i64 a0_2) := (blk_cell BK195.out 2).trans rfl; have hcz23_3 : w22.cell? ⟨gb195, 3, none⟩ = some (.string a0_3) := (blk_cell BK195.out 3).trans rfl; have hcz23_4 : w22.cell? ⟨gb195, 4, none⟩ = some (.string a0_4) := (blk_cell BK195.out 4).trans rfl; have hfz23_0 := blk_frozen BK195.out 0; have hfz23_1 := blk_frozen BK195.out 1; have hfz23_2 := blk_frozen BK195.out 2; have hfz23_3 := blk_frozen BK195.out 3; have hfz23_4 := blk_frozen BK195.out 4) | (go_at_call 22; (with_reducible refine (name_Right.calls k a0_0 true _ A3.out ?sidev).mono ?_); (case sidev => exact Laid8.below HV.out bl_); rintro e w24 ⟨rfl, hb⟩; have n0_ := Aside0.mk (blk_below (g := gb195) (o := .cells #[.string a0_0, .int .u64 a0_1, .int .i64 a0_2, .string a0_3, .string a0_4] 24 (0, 0)) kl_ hb); have n1_ := Aside0.mk (below_step bl_ hb); clear BK195; clear HB; have BK195 := n0_; have HB := n1_; clear n0_ n1_; (try clear hb); have hcz25_0 : w24.cell? ⟨gb195, 0, none⟩ = some (.string a0_0) := (blk_cell BK195.out 0).trans rfl; have hcz25_1 : w24.cell? ⟨gb195, 1, none⟩ = some (.int .u64 a0_1) := (blk_cell BK195.out 1).trans rfl; have hcz25_2 : w24.cell? ⟨gb195, 2, none⟩ = some (.int .i64 a0_2) := (blk_cell BK195.out 2).trans rfl; have hcz25_3 : w24.cell? ⟨gb195, 3, none⟩ = some (.string a0_3) := (blk_cell BK195.out 3).trans rfl; have hcz25_4 : w24.cell? ⟨gb195, 4, none⟩ = some (.string a0_4) := (blk_cell BK195.out 4).trans rfl; have hfz25_0 := blk_frozen BK195.out 0; have hfz25_1 := blk_frozen BK195.out 1; have hfz25_2 := blk_frozen BK195.out 2; have hfz25_3 := blk_frozen BK195.out 3; have hfz25_4 := blk_frozen BK195.out 4))
     go_ret
     exact ⟨eq_, bl_⟩
   ·rw [if_neg c5] at H
    have c5b0 : decide (0 ≤ a0_2) = false := decide_eq_false c5
    clear c5
    obtain rfl := Option.some.inj H
    go_enter Tryz.func13, Tryz.ntmps13
    go_wp2_with (first | ((with_reducible refine gate_dst (N := 1) rfl ?_); refine box_event ?hg (N := 1) ?hd (cs := #[.string a0_0, .int .u64 a0_1, .int .i64 a0_2, .string a0_3, .string a0_4]) (t := 24) ?hr ?_; (case hd => rfl); (case hg => rfl); (case hr => first | (go_simp; done) | (go_simp; rfl)); intro gb195 hg w26 hbox hb; have n0_ := Aside0.mk (below_step bl_ hb); have n1_ := Aside0.mk (hbox); have n2_ := Aside0.mk ((by rw [hg]; exact (below_size bl_) : w.heap.size ≤ gb195)); have n3_ := Aside0.mk ((by rw [hg]; exact (below_size bl_) : w.heap.size ≤ gb195)); clear HB; have HB := n0_; have BK195 := n1_; have GW195 := n2_; have GE195 := n3_; clear n0_ n1_ n2_ n3_; clear hb hbox hg; have hcz27_0 : w26.cell? ⟨gb195, 0, none⟩ = some (.string a0_0) := (blk_cell BK195.out 0).trans rfl; have hcz27_1 : w26.cell? ⟨gb195, 1, none⟩ = some (.int .u64 a0_1) := (blk_cell BK195.out 1).trans rfl; have hcz27_2 : w26.cell? ⟨gb195, 2, none⟩ = some (.int .i64 a0_2) := (blk_cell BK195.out 2).trans rfl; have hcz27_3 : w26.cell? ⟨gb195, 3, none⟩ = some (.string a0_3) := (blk_cell BK195.out 3).trans rfl; have hcz27_4 : w26.cell? ⟨gb195, 4, none⟩ = some (.string a0_4) := (blk_cell BK195.out 4).trans rfl; have hfz27_0 := blk_frozen BK195.out 0; have hfz27_1 := blk_frozen BK195.out 1; have hfz27_2 := blk_frozen BK195.out 2; have hfz27_3 := blk_frozen BK195.out 3; have hfz27_4 := blk_frozen BK195.out 4) | (go_at_call 22; (with_reducible refine (name_Right.calls k a0_0 true _ A3.out ?sidev).mono ?_); (case sidev => exact Laid8.below HV.out bl_); rintro e w28 ⟨rfl, hb⟩; have n0_ := Aside0.mk (blk_below (g := gb195) (o := .cells #[.string a0_0, .int .u64 a0_1, .int .i64 a0_2, .string a0_3, .string a0_4] 24 (0, 0)) kl_ hb); have n1_ := Aside0.mk (below_step bl_ hb); clear BK195; clear HB; have BK195 := n0_; have HB := n1_; clear n0_ n1_; (try clear hb); have hcz29_0 : w28.cell? ⟨gb195, 0, none⟩ = some (.string a0_0) := (blk_cell BK195.out 0).trans rfl; have hcz29_1 : w28.cell? ⟨gb195, 1, none⟩ = some (.int .u64 a0_1) := (blk_cell BK195.out 1).trans rfl; have hcz29_2 : w28.cell? ⟨gb195, 2, none⟩ = some (.int .i64 a0_2) := (blk_cell BK195.out 2).trans rfl; have hcz29_3 : w28.cell? ⟨gb195, 3, none⟩ = some (.string a0_3) := (blk_cell BK195.out 3).trans rfl; have hcz29_4 : w28.cell? ⟨gb195, 4, none⟩ = some (.string a0_4) := (blk_cell BK195.out 4).trans rfl; have hfz29_0 := blk_frozen BK195.out 0; have hfz29_1 := blk_frozen BK195.out 1; have hfz29_2 := blk_frozen BK195.out 2; have hfz29_3 := blk_frozen BK195.out 3; have hfz29_4 := blk_frozen BK195.out 4))
    go_ret
    exact ⟨eq_, bl_⟩
  ·replace c4 := Bool.eq_false_iff.mpr c4
   subst c4
   rw [if_neg (show ¬ (false = true) by decide)] at H
   obtain rfl := Option.some.inj H
   go_enter Tryz.func13, Tryz.ntmps13
   go_wp2_with (first | ((with_reducible refine gate_dst (N := 1) rfl ?_); refine box_event ?hg (N := 1) ?hd (cs := #[.string a0_0, .int .u64 a0_1, .int .i64 a0_2, .string a0_3, .string a0_4]) (t := 24) ?hr ?_; (case hd => rfl); (case hg => rfl); (case hr => first | (go_simp; done) | (go_simp; rfl)); intro gb195 hg w30 hbox hb; have n0_ := Aside0.mk (below_step bl_ hb); have n1_ := Aside0.mk (hbox); have n2_ := Aside0.mk ((by rw [hg]; exact (below_size bl_) : w.heap.size ≤ gb195)); have n3_ := Aside0.mk ((by rw [hg]; exact (below_size bl_) : w.heap.size ≤ gb195)); clear HB; have HB := n0_; have BK195 := n1_; have GW195 := n2_; have GE195 := n3_; clear n0_ n1_ n2_ n3_; clear hb hbox hg; have hcz31_0 : w30.cell? ⟨gb195, 0, none⟩ = some (.string a0_0) := (blk_cell BK195.out 0).trans rfl; have hcz31_1 : w30.cell? ⟨gb195, 1, none⟩ = some (.int .u64 a0_1) := (blk_cell BK195.out 1).trans rfl; have hcz31_2 : w30.cell? ⟨gb195, 2, none⟩ = some (.int .i64 a0_2) := (blk_cell BK195.out 2).trans rfl; have hcz31_3 : w30.cell? ⟨gb195, 3, none⟩ = some (.string a0_3) := (blk_cell BK195.out 3).trans rfl; have hcz31_4 : w30.cell? ⟨gb195, 4, none⟩ = some (.string a0_4) := (blk_cell BK195.out 4).trans rfl; have hfz31_0 := blk_frozen BK195.out 0; have hfz31_1 := blk_frozen BK195.out 1; have hfz31_2 := blk_frozen BK195.out 2; have hfz31_3 := blk_frozen BK195.out 3; have hfz31_4 := blk_frozen BK195.out 4) | (go_at_call 22; (with_reducible refine (name_Right.calls k a0_0 false _ A3.out ?sidev).mono ?_); (case sidev => exact Laid8.below HV.out bl_); rintro e w32 ⟨rfl, hb⟩; have n0_ := Aside0.mk (blk_below (g := gb195) (o := .cells #[.string a0_0, .int .u64 a0_1, .int .i64 a0_2, .string a0_3, .string a0_4] 24 (0, 0)) kl_ hb); have n1_ := Aside0.mk (below_step bl_ hb); clear BK195; clear HB; have BK195 := n0_; have HB := n1_; clear n0_ n1_; (try clear hb)))
   go_ret
   exact ⟨eq_, bl_⟩
 ·rw [if_neg c2] at H
  have c2b0 : (!(a0_0.toList == ([] : List UInt8)) || (!(a0_1 == 0) || (!(a0_2 == 0) || (!(a0_3.toList == ([] : List UInt8)) || (!(a0_4.toList == ([] : List UInt8))))))) = false := by simpa using c2
  have c2e0 := c2b0
  simp only [fresh_Right.beqE] at c2e0
  clear c2
  obtain rfl := Option.some.inj H
  go_enter Tryz.func13, Tryz.ntmps13
  go_wp2_with (first | ((with_reducible refine gate_dst (N := 1) rfl ?_); refine box_event ?hg (N := 1) ?hd (cs := #[.string a0_0, .int .u64 a0_1, .int .i64 a0_2, .string a0_3, .string a0_4]) (t := 24) ?hr ?_; (case hd => rfl); (case hg => rfl); (case hr => first | (go_simp; done) | (go_simp; rfl)); intro gb195 hg w33 hbox hb; have n0_ := Aside0.mk (below_step bl_ hb); have n1_ := Aside0.mk (hbox); have n2_ := Aside0.mk ((by rw [hg]; exact (below_size bl_) : w.heap.size ≤ gb195)); have n3_ := Aside0.mk ((by rw [hg]; exact (below_size bl_) : w.heap.size ≤ gb195)); clear HB; have HB := n0_; have BK195 := n1_; have GW195 := n2_; have GE195 := n3_; clear n0_ n1_ n2_ n3_; clear hb hbox hg; have hcz34_0 : w33.cell? ⟨gb195, 0, none⟩ = some (.string a0_0) := (blk_cell BK195.out 0).trans rfl; have hcz34_1 : w33.cell? ⟨gb195, 1, none⟩ = some (.int .u64 a0_1) := (blk_cell BK195.out 1).trans rfl; have hcz34_2 : w33.cell? ⟨gb195, 2, none⟩ = some (.int .i64 a0_2) := (blk_cell BK195.out 2).trans rfl; have hcz34_3 : w33.cell? ⟨gb195, 3, none⟩ = some (.string a0_3) := (blk_cell BK195.out 3).trans rfl; have hcz34_4 : w33.cell? ⟨gb195, 4, none⟩ = some (.string a0_4) := (blk_cell BK195.out 4).trans rfl; have hfz34_0 := blk_frozen BK195.out 0; have hfz34_1 := blk_frozen BK195.out 1; have hfz34_2 := blk_frozen BK195.out 2; have hfz34_3 := blk_frozen BK195.out 3; have hfz34_4 := blk_frozen BK195.out 4))
  go_ret
  exact ⟨eq_, bl_⟩
def fresh_number.f (a0 : ByteArray) : Option (Int × Bool) := (wire_Take.f a0).bind fun bt208 => (if bt208.2.2 = 0 then (some (bt208.1, (bt208.2.1.toList == ([] : List UInt8)))) else (some (bt208.1, false)))
set_option maxHeartbeats 8000000 in
set_option maxRecDepth 100000 in
theorem fresh_number.calls (a0 : ByteArray) (r1 : Int) (r2 : Bool) (w : World) (h : fresh_number.f a0 = some (r1, r2)) :
  Calls Tryz.prog 38 #[.string a0] w fun e w' => e = .returned (.tuple #[.int .u64 r1, .bool r2]) ∧ Below w.heap.size w w' := by
 have HB := Aside0.mk (Below.refl w.heap.size w)
 unfold fresh_number.f at h
 have H := h
 clear h
 replace H := Option.bind_eq_some_iff.mp H
 obtain ⟨⟨t208, t209, t210⟩, A20, H⟩ := H
 try dsimp only at H
 have A2 := Aside0.mk A20
 clear A20
 by_cases c3 : t210 = 0
 ·rw [if_pos c3] at H
  have c3b0 : (t210 == 0) = true := beq_iff_eq.mpr c3
  have c3b1 : (t210 != 0) = false := bne_eq_false_iff_eq.mpr c3
  clear c3
  simp only [Option.some.injEq, Prod.mk.injEq] at H
  obtain ⟨rfl, rfl⟩ := H
  go_enter Tryz.func38, Tryz.ntmps38
  go_wp2_with (first | ((with_reducible refine gate_callee (f := 73) rfl ?_); refine gL (some 9) Tryz.func73 #[.string a0] rfl ?_; (with_reducible refine (wire_Take.calls a0 t208 t209 t210 _ A2.out).mono ?_); rintro e w4 ⟨rfl, hb⟩; refine ⟨_, rfl, ?_⟩; have n0_ := Aside0.mk (below_step bl_ hb); clear HB; have HB := n0_; clear n0_; (try clear hb)))
  go_ret2
  exact ⟨eq_, bl_⟩
 ·rw [if_neg c3] at H
  have c3b0 : (t210 == 0) = false := beq_eq_false_iff_ne.mpr c3
  have c3b1 : (t210 != 0) = true := bne_iff_ne.mpr c3
  simp only [Option.some.injEq, Prod.mk.injEq] at H
  obtain ⟨rfl, rfl⟩ := H
  go_enter Tryz.func38, Tryz.ntmps38
  go_wp2_with (first | ((with_reducible refine gate_callee (f := 73) rfl ?_); refine gL (some 9) Tryz.func73 #[.string a0] rfl ?_; (with_reducible refine (wire_Take.calls a0 t208 t209 t210 _ A2.out).mono ?_); rintro e w5 ⟨rfl, hb⟩; refine ⟨_, rfl, ?_⟩; have n0_ := Aside0.mk (below_step bl_ hb); clear HB; have HB := n0_; clear n0_; (try clear hb)))
  go_ret2
  exact ⟨eq_, bl_⟩
end Go.Proofs.YtodiffgpefidoaaGreatDoor.P

