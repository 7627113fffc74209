/- Slimmed by wip/slim.py. -/
import Derived.Test.YtodiffgpefidoaaGreatDoorXTells
import Derived.Test.YtodiffgpefidoaaGreatDoorGEq
import Derived.Test.YtodiffgpefidoaaGreatDoorGFresh
import Derived.Test.YtodiffgpefidoaaGreatDoorGFresh1
import Derived.Test.YtodiffgpefidoaaGreatDoorGLaw11
import Derived.Test.YtodiffgpefidoaaGreatDoorGRef11
import Derived.Test.YtodiffgpefidoaaGreatDoorGRef111
import Derived.Test.YtodiffgpefidoaaGreatDoorGRef112
namespace Go.Proofs.YtodiffgpefidoaaGreatDoor.P
open Go Go.RowKit Go.Proofs.YtodiffgpefidoaaGreatDoorW.PrintWords Go.Proofs.YtodiffgpefidoaaGreatDoorW.PrintLast Go.Proofs.YtodiffgpefidoaaGreatDoorW.PrintMore
attribute [local go_sem] max2_int min2_int max_two min_two max_three min_three max_four min_four
set_option linter.unusedVariables false
set_option linter.unusedSimpArgs false
theorem eqA28 (d : Nat) (w : World) (x0 y0 : ByteArray) (x1 y1 : Int) (x2 y2 : Int) (x3 y3 : ByteArray) (x4 y4 : ByteArray) :
  (Op.equalIn (d + 2) 28 (.agg #[.string x0, .int .u64 x1, .int .i64 x2, .string x3, .string x4]) (.agg #[.string y0, .int .u64 y1, .int .i64 y2, .string y3, .string y4])).run Tryz.prog w = .ok (x0.toList == y0.toList && (x1 == y1 && (x2 == y2 && (x3.toList == y3.toList && (x4.toList == y4.toList))))) w := by
 refine eqA_of Tryz.underlying28 (by kernel_rfl) ?_
 refine eqf_cons (by rfl) (by go_simp; rfl) (by go_simp; rfl) (by go_simp) ?_
 refine eqf_cons (by rfl) (by go_simp; rfl) (by go_simp; rfl) (by go_simp) ?_
 refine eqf_cons (by rfl) (by go_simp; rfl) (by go_simp; rfl) (by go_simp) ?_
 refine eqf_cons (by rfl) (by go_simp; rfl) (by go_simp; rfl) (by go_simp) ?_
 exact eqf_last (by rfl) (by go_simp; rfl) (by go_simp; rfl) (by go_simp)
attribute [local go_sem high] eqA28
theorem cell_keepT {w w' : World} {p : Addr} {v : Value} (hb : Below w.heap.size w w') (h : w.cell? p = some v) : w'.cell? p = some v := (hb.cell (World.block_lt_of_cell? w _ h)).trans h
set_option maxRecDepth 100000 in
theorem loadStr (ev : Operand → Value) (o : Oper) (p : Operand) (ho : o.op = .load 9 p) (w : World) (a : Addr) (y : ByteArray) (hp : ev p = .pointer (some a)) (hc : w.cell? a = some (.string y)) : (execOp ev o).run Tryz.prog w = .ok (.value (.string y)) w := by
 obtain ⟨dst, op, ty, pos, aft, gd⟩ := o
 simp only at ho
 subst ho
 have hu := Tryz.underlying9
 go_simp
def tells.T16 : Bool × List (List Nat × List Nat) := (true, [([], []), ([0], [0]), ([], []), ([2, 1], [2]), ([1, 3], [1, 3]), ([4, 3], [4]), ([5], [5]), ([5], [5]), ([5], [5]), ([5], [5]), ([5], [5]), ([6, 7, 8, 9, 10, 5, 5], [5, 6, 7, 8, 9, 10]), ([5], [5]), ([5], [5]), ([5], [5]), ([5], [5]), ([5], [5]), ([12, 13, 14, 15, 16, 11, 5], [5, 12, 13, 14, 15, 16]), ([11, 17, 5], [5, 11, 17]), ([5, 18], [5, 18]), ([19, 17], [19]), ([20], [20]), ([20], [20]), ([20], [20]), ([20], [20]), ([21, 22, 23, 24, 20, 20], [20, 21, 22, 23, 24]), ([20], [20]), ([20], [20]), ([20], [20]), ([20], [20]), ([26, 27, 28, 29, 25, 20], [20, 26, 27, 28, 29]), ([25, 30, 20], [20, 25, 30]), ([20, 31], [20, 31]), ([32, 30, 0, 1, 2, 3, 4, 5, 6, 7, 8, 9, 10, 11, 12, 13, 14, 15, 16, 17, 18, 19, 20, 21, 22, 23, 24, 25, 26, 27, 28, 29, 30, 31, 32], [32])])
def tells.B16 : List Nat := [0, 1, 0, 7, 15, 31, 63, 63, 63, 63, 63, 2047, 63, 63, 63, 63, 63, 131071, 262143, 524287, 1048575, 2097151, 2097151, 2097151, 2097151, 33554431, 2097151, 2097151, 2097151, 2097151, 1073741823, 2147483647, 4294967295, 8589934591]
theorem tells.tab16 : rtab .any (opsOf Tryz.f3 16) = tells.T16 := by kernel_rfl
theorem tells.bits16 : waitsOk tells.T16.2 tells.B16 = true := by kernel_rfl
def tells.T17 : Bool × List (List Nat × List Nat) := (true, [([], []), ([0], [0]), ([1], [1]), ([2, 1, 1], [1, 2]), ([1], [1]), ([3, 4, 1], [1, 3, 4]), ([1, 5], [1, 5]), ([6, 3], [6]), ([7], [7]), ([7], [7]), ([8, 9, 7], [7, 8, 9]), ([7, 10], [7, 10]), ([11, 7], [11]), ([12], [12]), ([12], [12]), ([13, 14, 12], [12, 13, 14]), ([12, 15], [12, 15]), ([16, 12], [16]), ([17], [17]), ([17], [17]), ([18, 19, 17], [17, 18, 19]), ([17, 20], [17, 20]), ([21, 17], [21]), ([22], [22]), ([23, 22, 22], [22, 23]), ([22], [22]), ([24, 25, 22], [22, 24, 25]), ([22, 26], [22, 26]), ([27, 24], [27]), ([28], [28]), ([28], [28]), ([29, 30, 28], [28, 29, 30]), ([28, 31], [28, 31]), ([32, 28, 0, 1, 2, 3, 4, 5, 6, 7, 8, 9, 10, 11, 12, 13, 14, 15, 16, 17, 18, 19, 20, 21, 22, 23, 24, 25, 26, 27, 28, 29, 30, 31, 32], [32])])
def tells.B17 : List Nat := [0, 1, 3, 7, 3, 31, 63, 127, 255, 255, 1023, 2047, 4095, 8191, 8191, 32767, 65535, 131071, 262143, 262143, 1048575, 2097151, 4194303, 8388607, 16777215, 8388607, 67108863, 134217727, 268435455, 536870911, 536870911, 2147483647, 4294967295, 8589934591]
theorem tells.tab17 : rtab .any (opsOf Tryz.f3 17) = tells.T17 := by kernel_rfl
theorem tells.bits17 : waitsOk tells.T17.2 tells.B17 = true := by kernel_rfl
set_option maxHeartbeats 8000000 in
set_option maxRecDepth 100000 in
theorem tells_some (k : Nat) (o : ByteArray) (t n : Int) (r g b s w_ : ByteArray) (A4 : Option Addr) (c4 : Nat) (l4 : List ByteArray) (a5 a6 a7 : Int) (A8 : Option Addr) (c8 : Nat) (l8 : List ByteArray) (x1 : ByteArray) (x2 x3 : Int) (x4 x5 : ByteArray) (x6 : Int) (p1 : ByteArray) (p2 : Int) (u1 : ByteArray) (u2 u3 : Int) (u4 u5 : ByteArray) (u6 : Int) (rr : Bool) (cc : Int) (vv : Bool) (w : World)
  (hr4 : Kd.C Kd.string w A4 l4.length l4) (hc4 : l4.length ≤ c4) (hr8 : Kd.C Kd.string w A8 l8.length l8) (hc8 : l8.length ≤ c8) (hV : Laid8 w) (hl : 0 < (l4.length : Int))
  (q1 : ¬ (wrap64 ((wrap64 ((wrap64 ((r.size : Int) + (g.size : Int))) + (o.size : Int))) + (b.size : Int))) > 9000) (q2 : ¬ (wrap64 ((s.size : Int) + (w_.size : Int))) > 9000)
  (a0 : letterlocklaw11_shown.f k = some true) (a1 : letterlocklaw11_light.f k l4 = some true) (a2 : letterlocklaw11_light.f k l8 = some true)
  (a3 : fresh_Build.f k s w_ a5 l4 = some (x1, x2, x3, x4, x5, x6)) (b3 : letterlockref11_Build.f k s w_ a5 l4 = some (x1, x2, x3, x4, x5, x6))
  (a4 : fresh_Put.f k o t n r g = some (p1, p2)) (b4 : letterlockref11_Put.f k o t n r g = some (p1, p2)) (a5_ : fresh_Take.f k b = some (u1, u2, u3, u4, u5, u6)) (b5 : letterlockref11_Take.f k b = some (u1, u2, u3, u4, u5, u6))
  (a6_ : fresh_Right.f k o t n r g = some rr) (b6 : letterlockref11_Right.f k o t n r g = some rr) (a7_ : fresh_Check.f k o t n r g s w_ a5 a6 = some cc) (b7 : letterlockref11_Check.f k o t n r g s w_ a5 a6 = some cc)
  (a8 : fresh_Covers.f k o t n r g a7 (rdOf ByteArray.empty l4 0) l8 = some vv) (b8 : letterlockref11_Covers.f k o t n r g a7 (rdOf ByteArray.empty l4 0) l8 = some vv) :
  Calls Tryz.prog 3 #[.agg #[.string o, .int .u64 t, .int .i64 n, .string r, .string g], .string b, .string s, .string w_, .slice A4 l4.length c4, .int .u64 a5, .int .u64 a6, .int .i64 a7, .slice A8 l8.length c8] w fun e w' => e = .returned (.bool true) ∧ Below w.heap.size w w' := by
 have HV := Aside0.mk hV
 have HS := Aside0.mk (Boxes.nil w)
 have HR4 := Aside0.mk hr4
 have HC4 := Aside0.mk hc4
 have HR8 := Aside0.mk hr8
 have HC8 := Aside0.mk hc8
 have A0 := Aside0.mk a0
 have A1 := Aside0.mk a1
 have A2 := Aside0.mk a2
 have A3 := Aside0.mk a3
 have B3 := Aside0.mk b3
 have A4_ := Aside0.mk a4
 have B4_ := Aside0.mk b4
 have A5 := Aside0.mk a5_
 have B5 := Aside0.mk b5
 have A6 := Aside0.mk a6_
 have B6 := Aside0.mk b6
 have A7 := Aside0.mk a7_
 have B7 := Aside0.mk b7
 have A8_ := Aside0.mk a8
 have B8_ := Aside0.mk b8
 have c16b0 : decide (9000 < (wrap64 ((wrap64 ((wrap64 ((r.size : Int) + (g.size : Int))) + (o.size : Int))) + (b.size : Int)))) = false := decide_eq_false q1
 have c17b0 : decide (9000 < (wrap64 ((s.size : Int) + (w_.size : Int)))) = false := decide_eq_false q2
 obtain ⟨ad4, e4, hx4⟩ := Kd.at_string hr4 0 (by omega) hl
 cases e4
 rw [show ((0 : Int)).toNat = 0 from rfl, Addr.add_zero'] at hx4
 have HX := Aside0.mk hx4
 have c25b0 : decide (0 < (l4.length : Int)) = true := decide_eq_true hl
 have c25b1 : decide (0 < l4.length) = true := decide_eq_true (by omega)
 have c25b2 : (0 < l4.length) = True := eq_true (by omega)
 clear hx4
 clear hV hr4 hc4 hr8 hc8 q1 q2 a0 a1 a2 a3 b3 a4 b4 a5_ b5 a6_ b6 a7_ b7 a8 b8
 go_enter Tryz.func3, Tryz.ntmps3
 go_wp2_with (first | ((with_reducible refine gate_dst (N := 9) rfl ?_); refine box_event ?hg (N := 9) ?hd (cs := stampC o t n r g) (t := 24) ?hr ?_; (case hd => rfl); (case hg => rfl); (case hr => first | (go_simp; done) | (go_simp; rfl)); intro g9 hg w1 hbox hb; have n0_ := Aside0.mk (Boxes.box HS.out hg hbox hb); clear HS; have HS := n0_; clear n0_; clear hb hbox hg) | ((with_reducible refine gate_callee (f := 4) rfl ?_); refine gL (some 37) Tryz.func4 #[] rfl ?_; refine (letterlocklaw11_shown.calls k true _ A0.out (Laid8.below HV.out HS.out.bel)).mono ?_; rintro e w1 ⟨rfl, hb⟩; refine ⟨_, rfl, ?_⟩; have n0_ := Aside0.mk (HS.out.below hb); clear HS; have HS := n0_; clear n0_; clear hb) | ((with_reducible refine gate_callee (f := 5) rfl ?_); refine gL (some 39) Tryz.func5 #[.slice (some ad4) l4.length c4] rfl ?_; refine (letterlocklaw11_light.calls k _ _ l4 true _ (Kd.C_below HR4.out HS.out.bel) HC4.out A1.out).mono ?_; rintro e w1 ⟨rfl, hb⟩; refine ⟨_, rfl, ?_⟩; have n0_ := Aside0.mk (HS.out.below hb.below); clear HS; have HS := n0_; clear n0_; clear hb) | ((with_reducible refine gate_callee (f := 5) rfl ?_); refine gL (some 41) Tryz.func5 #[.slice A8 l8.length c8] rfl ?_; refine (letterlocklaw11_light.calls k _ _ l8 true _ (Kd.C_below HR8.out HS.out.bel) HC8.out A2.out).mono ?_; rintro e w1 ⟨rfl, hb⟩; refine ⟨_, rfl, ?_⟩; have n0_ := Aside0.mk (HS.out.below hb.below); clear HS; have HS := n0_; clear n0_; clear hb; have hz0 := (HS.out.cell (cs := stampC o t n r g) (.head _) 0); have hz3 := (HS.out.cell (cs := stampC o t n r g) (.head _) 3); have hz4 := (HS.out.cell (cs := stampC o t n r g) (.head _) 4); simp only [stampC, List.getElem?_toArray, List.getElem?_cons_zero, List.getElem?_cons_succ] at hz0 hz3 hz4) | ((with_reducible refine gate_dst (N := 78) rfl ?_); refine load_event rfl (load5s _ _ _ _ _ _ _ _ rfl rfl (HS.out.get (cs := stampC o t n r g) (.head _))) ?_) | ((with_reducible refine gate_callee (f := 6) rfl ?_); refine gL (some 79) Tryz.func6 #[.agg (stampC o t n r g)] rfl ?_; refine (letterlocklaw11_as.calls o t n r g o t n r g _ rfl).mono ?_; rintro e w1 ⟨rfl, hb⟩; refine ⟨_, rfl, ?_⟩; have n0_ := Aside0.mk (HS.out.below hb); clear HS; have HS := n0_; clear n0_; clear hb) | ((with_reducible refine gate_dst (N := 22) rfl ?_); refine box_event ?hg (N := 22) ?hd (cs := stamp0) (t := 28) ?hr ?_; (case hd => rfl); (case hg => rfl); (case hr => first | (go_simp; done) | (go_simp; rfl)); intro g22 hg w1 hbox hb; have n0_ := Aside0.mk (Boxes.box HS.out hg hbox hb); clear HS; have HS := n0_; clear n0_; clear hb hbox hg) | ((with_reducible refine gate_store (p := 22) rfl ?_); refine store_event rfl rfl (store5r _ _ _ _ _ _ _ _ _ rfl rfl rfl (HS.out.get (.head _))) ?_; have n0_ := Aside0.mk (HS.out.put5 o t n r g); clear HS; have HS := n0_; clear n0_) | ((with_reducible refine gate_callee (f := 7) rfl ?_); refine gL (some 85) Tryz.func7 #[.string s, .string w_, .int .u64 a5, .slice (some ad4) l4.length c4] rfl ?_; refine (fresh_Build.calls k s w_ a5 _ _ l4 x1 x2 x3 x4 x5 x6 _ (Kd.C_below HR4.out HS.out.bel) HC4.out A3.out (Laid8.below HV.out HS.out.bel)).mono ?_; rintro e w1 ⟨rfl, hb⟩; refine ⟨_, rfl, ?_⟩; have n0_ := Aside0.mk (HS.out.below hb); clear HS; have HS := n0_; clear n0_; clear hb) | ((with_reducible refine gate_dst (N := 23) rfl ?_); refine box_event ?hg (N := 23) ?hd (cs := stamp0) (t := 24) ?hr ?_; (case hd => rfl); (case hg => rfl); (case hr => first | (go_simp; done) | (go_simp; rfl)); intro g23 hg w1 hbox hb; have n0_ := Aside0.mk (Boxes.box HS.out hg hbox hb); clear HS; have HS := n0_; clear n0_; clear hb hbox hg) | ((with_reducible refine gate_store (p := 23) rfl ?_); refine store_event rfl rfl (store5s _ _ _ _ _ _ _ _ _ rfl rfl rfl (HS.out.get (.head _))) ?_; have n0_ := Aside0.mk (HS.out.put5 x1 x2 x3 x4 x5); clear HS; have HS := n0_; clear n0_) | ((with_reducible refine gate_callee (f := 8) rfl ?_); refine gL (some 93) Tryz.func8 #[.string s, .string w_, .int .u64 a5, .slice (some ad4) l4.length c4] rfl ?_; refine (letterlockref11_Build.calls k s w_ a5 _ _ l4 x1 x2 x3 x4 x5 x6 _ (Kd.C_below HR4.out HS.out.bel) HC4.out B3.out).mono ?_; rintro e w1 ⟨rfl, hb⟩; refine ⟨_, rfl, ?_⟩; have n0_ := Aside0.mk (HS.out.below hb); clear HS; have HS := n0_; clear n0_; clear hb) | ((with_reducible refine gate_dst (N := 25) rfl ?_); refine box_event ?hg (N := 25) ?hd (cs := stamp0) (t := 28) ?hr ?_; (case hd => rfl); (case hg => rfl); (case hr => first | (go_simp; done) | (go_simp; rfl)); intro g25 hg w1 hbox hb; have n0_ := Aside0.mk (Boxes.box HS.out hg hbox hb); clear HS; have HS := n0_; clear n0_; clear hb hbox hg) | ((with_reducible refine gate_store (p := 25) rfl ?_); refine store_event rfl rfl (store5r _ _ _ _ _ _ _ _ _ rfl rfl rfl (HS.out.get (.head _))) ?_; have n0_ := Aside0.mk (HS.out.put5 x1 x2 x3 x4 x5); clear HS; have HS := n0_; clear n0_) | ((with_reducible refine gate_dst (N := 97) rfl ?_); refine load_event rfl (load5s _ _ _ _ _ _ _ _ rfl rfl (HS.out.get (cs := stampC o t n r g) (.tail _ (.tail _ (.tail _ (.head _)))))) ?_) | ((with_reducible refine gate_callee (f := 9) rfl ?_); refine gL (some 98) Tryz.func9 #[.agg (stampC o t n r g)] rfl ?_; refine (fresh_Put.calls k o t n r g p1 p2 _ A4_.out (Laid8.below HV.out HS.out.bel)).mono ?_; rintro e w1 ⟨rfl, hb⟩; refine ⟨_, rfl, ?_⟩; have n0_ := Aside0.mk (HS.out.below hb); clear HS; have HS := n0_; clear n0_; clear hb) | ((with_reducible refine gate_dst (N := 102) rfl ?_); refine load_event rfl (load5r _ _ _ _ _ _ _ _ rfl rfl (HS.out.get (cs := stampC o t n r g) (.tail _ (.tail _ (.head _))))) ?_) | ((with_reducible refine gate_callee (f := 10) rfl ?_); refine gL (some 103) Tryz.func10 #[.agg (stampC o t n r g)] rfl ?_; refine (letterlockref11_Put.calls k o t n r g p1 p2 _ B4_.out).mono ?_; rintro e w1 ⟨rfl, hb⟩; refine ⟨_, rfl, ?_⟩; have n0_ := Aside0.mk (HS.out.below hb); clear HS; have HS := n0_; clear n0_; clear hb) | ((with_reducible refine gate_callee (f := 11) rfl ?_); refine gL (some 108) Tryz.func11 #[.string b] rfl ?_; refine (fresh_Take.calls k b u1 u2 u3 u4 u5 u6 _ A5.out (Laid8.below HV.out HS.out.bel)).mono ?_; rintro e w1 ⟨rfl, hb⟩; refine ⟨_, rfl, ?_⟩; have n0_ := Aside0.mk (HS.out.below hb); clear HS; have HS := n0_; clear n0_; clear hb) | ((with_reducible refine gate_dst (N := 31) rfl ?_); refine box_event ?hg (N := 31) ?hd (cs := stamp0) (t := 24) ?hr ?_; (case hd => rfl); (case hg => rfl); (case hr => first | (go_simp; done) | (go_simp; rfl)); intro g31 hg w1 hbox hb; have n0_ := Aside0.mk (Boxes.box HS.out hg hbox hb); clear HS; have HS := n0_; clear n0_; clear hb hbox hg) | ((with_reducible refine gate_store (p := 31) rfl ?_); refine store_event rfl rfl (store5s _ _ _ _ _ _ _ _ _ rfl rfl rfl (HS.out.get (.head _))) ?_; have n0_ := Aside0.mk (HS.out.put5 u1 u2 u3 u4 u5); clear HS; have HS := n0_; clear n0_) | ((with_reducible refine gate_callee (f := 12) rfl ?_); refine gL (some 113) Tryz.func12 #[.string b] rfl ?_; refine (letterlockref11_Take.calls k b u1 u2 u3 u4 u5 u6 _ B5.out).mono ?_; rintro e w1 ⟨rfl, hb⟩; refine ⟨_, rfl, ?_⟩; have n0_ := Aside0.mk (HS.out.below hb); clear HS; have HS := n0_; clear n0_; clear hb) | ((with_reducible refine gate_dst (N := 33) rfl ?_); refine box_event ?hg (N := 33) ?hd (cs := stamp0) (t := 28) ?hr ?_; (case hd => rfl); (case hg => rfl); (case hr => first | (go_simp; done) | (go_simp; rfl)); intro g33 hg w1 hbox hb; have n0_ := Aside0.mk (Boxes.box HS.out hg hbox hb); clear HS; have HS := n0_; clear n0_; clear hb hbox hg) | ((with_reducible refine gate_store (p := 33) rfl ?_); refine store_event rfl rfl (store5r _ _ _ _ _ _ _ _ _ rfl rfl rfl (HS.out.get (.head _))) ?_; have n0_ := Aside0.mk (HS.out.put5 u1 u2 u3 u4 u5); clear HS; have HS := n0_; clear n0_) | ((with_reducible refine gate_dst (N := 122) rfl ?_); refine load_event rfl (loadStr _ _ _ rfl _ ad4 _ rfl (cell_keepT HS.out.bel HX.out)) ?_))
 have n0_ := Aside0.mk HS.out.drew
 clear HS
 refine start_ (n := 34) (S := fun w' => Aside0 (Boxes w w' [(g33, 28, stampC u1 u2 u3 u4 u5), (g31, 24, stampC u1 u2 u3 u4 u5), (g25, 28, stampC x1 x2 x3 x4 x5), (g23, 24, stampC x1 x2 x3 x4 x5), (g22, 28, stampC o t n r g), (g9, 24, stampC o t n r g)])) (ds := []) (bn 34 0) (by kernel_rfl) rfl (by kernel_rfl) n0_ (fun hHeld => ?_); refine with_tabW tells.tab16 tells.bits16 (fun HT_ HW_ => ?_)
 clear n0_
 refine tS (i := 0) (N := some 123) (v := .agg (stampC o t n r g)) (bn 34 1) rfl HT_.out HW_.out hHeld (fun w' s0 => load5s _ _ _ _ _ _ _ _ rfl rfl (s0.out.get (.tail _ (.tail _ (.tail _ (.tail _ (.tail _ (.head _)))))))) ?_
 refine tS (i := 2) (N := some 125) (v := .agg (stampC o t n r g)) (bn 34 5) rfl HT_.out HW_.out hHeld (fun w' s0 => load5r _ _ _ _ _ _ _ _ rfl rfl (s0.out.get (.tail _ (.tail _ (.tail _ (.tail _ (.head _))))))) ?_
 refine oS (i := 1) (N := some 124) (bn 34 7) rfl HT_.out (fun K hK => ?_)
 refine gS Tryz.func13 #[.agg (stampC o t n r g)] rfl ?_
 refine (fresh_Right.calls k o t n r g rr _ A6.out (Laid8.below HV.out hHeld.out.bel)).mono ?_
 rintro e w1 ⟨rfl, hb⟩
 refine ⟨_, rfl, ?_⟩
 have n0_ := Aside0.mk (hHeld.out.below hb)
 clear hb hHeld
 refine hK.out _ _ n0_ (fun hHeld => ?_)
 clear hK K n0_
 refine nS (some 124) ?_
 refine oS (i := 3) (N := some 126) (bn 34 15) rfl HT_.out (fun K hK => ?_)
 refine gS Tryz.func14 #[.agg (stampC o t n r g)] rfl ?_
 refine (letterlockref11_Right.calls k o t n r g rr _ B6.out).mono ?_
 rintro e w1 ⟨rfl, hb⟩
 refine ⟨_, rfl, ?_⟩
 have n0_ := Aside0.mk (hHeld.out.below hb)
 clear hb hHeld
 refine hK.out _ _ n0_ (fun hHeld => ?_)
 clear hK K n0_
 refine nS (some 126) ?_
 refine pS (i := 4) (N := some 127) (bn 34 31) rfl HT_.out ?_
 refine pS (i := 5) (N := some 128) (bn 34 63) rfl HT_.out ?_
 refine pS (i := 7) (N := some 130) (bn 34 191) rfl HT_.out ?_
 refine pS (i := 8) (N := some 131) (bn 34 447) rfl HT_.out ?_
 refine pS (i := 9) (N := some 132) (bn 34 959) rfl HT_.out ?_
 refine pS (i := 10) (N := some 133) (bn 34 1983) rfl HT_.out ?_
 refine pS (i := 13) (N := some 136) (bn 34 10175) rfl HT_.out ?_
 refine pS (i := 14) (N := some 137) (bn 34 26559) rfl HT_.out ?_
 refine pS (i := 15) (N := some 138) (bn 34 59327) rfl HT_.out ?_
 refine pS (i := 16) (N := some 139) (bn 34 124863) rfl HT_.out ?_
 refine tS (i := 6) (N := some 129) (v := .agg (stampC o t n r g)) (bn 34 124927) rfl HT_.out HW_.out hHeld (fun w' s0 => load5s _ _ _ _ _ _ _ _ rfl rfl (s0.out.get (.tail _ (.tail _ (.tail _ (.tail _ (.tail _ (.head _)))))))) ?_
 refine tS (i := 12) (N := some 135) (v := .agg (stampC o t n r g)) (bn 34 129023) rfl HT_.out HW_.out hHeld (fun w' s0 => load5r _ _ _ _ _ _ _ _ rfl rfl (s0.out.get (.tail _ (.tail _ (.tail _ (.tail _ (.head _))))))) ?_
 refine oS (i := 11) (N := some 134) (bn 34 131071) rfl HT_.out (fun K hK => ?_)
 refine gS Tryz.func15 #[.agg (stampC o t n r g), .string s, .string w_, .int .u64 a5, .int .u64 a6] rfl ?_
 refine (fresh_Check.calls k o t n r g s w_ a5 a6 cc _ A7.out (Laid8.below HV.out hHeld.out.bel)).mono ?_
 rintro e w1 ⟨rfl, hb⟩
 refine ⟨_, rfl, ?_⟩
 have n0_ := Aside0.mk (hHeld.out.below hb)
 clear hb hHeld
 refine hK.out _ _ n0_ (fun hHeld => ?_)
 clear hK K n0_
 refine nS (some 134) ?_
 refine oS (i := 17) (N := some 140) (bn 34 262143) rfl HT_.out (fun K hK => ?_)
 refine gS Tryz.func16 #[.agg (stampC o t n r g), .string s, .string w_, .int .u64 a5, .int .u64 a6] rfl ?_
 refine (letterlockref11_Check.calls k o t n r g s w_ a5 a6 cc _ B7.out).mono ?_
 rintro e w1 ⟨rfl, hb⟩
 refine ⟨_, rfl, ?_⟩
 have n0_ := Aside0.mk (hHeld.out.below hb)
 clear hb hHeld
 refine hK.out _ _ n0_ (fun hHeld => ?_)
 clear hK K n0_
 refine nS (some 140) ?_
 refine pS (i := 18) (N := some 141) (bn 34 524287) rfl HT_.out ?_
 refine pS (i := 19) (N := some 142) (bn 34 1048575) rfl HT_.out ?_
 refine pS (i := 20) (N := some 143) (bn 34 2097151) rfl HT_.out ?_
 refine pS (i := 22) (N := some 145) (bn 34 6291455) rfl HT_.out ?_
 refine pS (i := 23) (N := some 146) (bn 34 14680063) rfl HT_.out ?_
 refine pS (i := 24) (N := some 147) (bn 34 31457279) rfl HT_.out ?_
 refine pS (i := 27) (N := some 150) (bn 34 165675007) rfl HT_.out ?_
 refine pS (i := 28) (N := some 151) (bn 34 434110463) rfl HT_.out ?_
 refine pS (i := 29) (N := some 152) (bn 34 970981375) rfl HT_.out ?_
 refine tS (i := 21) (N := some 144) (v := .agg (stampC o t n r g)) (bn 34 973078527) rfl HT_.out HW_.out hHeld (fun w' s0 => load5s _ _ _ _ _ _ _ _ rfl rfl (s0.out.get (.tail _ (.tail _ (.tail _ (.tail _ (.tail _ (.head _)))))))) ?_
 refine tS (i := 26) (N := some 149) (v := .agg (stampC o t n r g)) (bn 34 1040187391) rfl HT_.out HW_.out hHeld (fun w' s0 => load5r _ _ _ _ _ _ _ _ rfl rfl (s0.out.get (.tail _ (.tail _ (.tail _ (.tail _ (.head _))))))) ?_
 refine oS (i := 25) (N := some 148) (bn 34 1073741823) rfl HT_.out (fun K hK => ?_)
 refine gS Tryz.func17 #[.agg (stampC o t n r g), .int .i64 a7, .string (rdOf ByteArray.empty l4 0), .slice A8 l8.length c8] rfl ?_
 refine (fresh_Covers.calls k o t n r g a7 (rdOf ByteArray.empty l4 0) _ _ l8 vv _ (Kd.C_below HR8.out hHeld.out.bel) HC8.out A8_.out (Laid8.below HV.out hHeld.out.bel)).mono ?_
 rintro e w1 ⟨rfl, hb⟩
 refine ⟨_, rfl, ?_⟩
 have n0_ := Aside0.mk (hHeld.out.below hb)
 clear hb hHeld
 refine hK.out _ _ n0_ (fun hHeld => ?_)
 clear hK K n0_
 refine nS (some 148) ?_
 refine oS (i := 30) (N := some 153) (bn 34 2147483647) rfl HT_.out (fun K hK => ?_)
 refine gS Tryz.func18 #[.agg (stampC o t n r g), .int .i64 a7, .string (rdOf ByteArray.empty l4 0), .slice A8 l8.length c8] rfl ?_
 refine (letterlockref11_Covers.calls k o t n r g a7 (rdOf ByteArray.empty l4 0) _ _ l8 vv _ (Kd.C_below HR8.out hHeld.out.bel) HC8.out B8_.out).mono ?_
 rintro e w1 ⟨rfl, hb⟩
 refine ⟨_, rfl, ?_⟩
 have n0_ := Aside0.mk (hHeld.out.below hb)
 clear hb hHeld
 refine hK.out _ _ n0_ (fun hHeld => ?_)
 clear hK K n0_
 refine nS (some 153) ?_
 refine pS (i := 31) (N := some 154) (bn 34 4294967295) rfl HT_.out ?_
 refine pS (i := 32) (N := some 155) (bn 34 8589934591) rfl HT_.out ?_
 refine pS (i := 33) (N := some 36) (bn 34 17179869183) rfl HT_.out ?_
 refine done_ (done_of HT_.out (by kernel_rfl)) ?_
 have HS := hHeld
 clear hHeld
 try go_wp2
 have n0_ := Aside0.mk HS.out.drew
 clear HS
 refine start_ (n := 34) (S := fun w' => Aside0 (Boxes w w' [(g33, 28, stampC u1 u2 u3 u4 u5), (g31, 24, stampC u1 u2 u3 u4 u5), (g25, 28, stampC x1 x2 x3 x4 x5), (g23, 24, stampC x1 x2 x3 x4 x5), (g22, 28, stampC o t n r g), (g9, 24, stampC o t n r g)])) (ds := []) (bn 34 0) (by kernel_rfl) rfl (by kernel_rfl) n0_ (fun hHeld => ?_); refine with_tabW tells.tab17 tells.bits17 (fun HT_ HW_ => ?_)
 clear n0_
 refine pS (i := 0) (N := some 156) (bn 34 1) rfl HT_.out ?_
 refine pS (i := 1) (N := some 157) (bn 34 3) rfl HT_.out ?_
 refine tS (i := 2) (N := some 158) (v := .agg (stampC x1 x2 x3 x4 x5)) (bn 34 7) rfl HT_.out HW_.out hHeld (fun w' s0 => load5s _ _ _ _ _ _ _ _ rfl rfl (s0.out.get (.tail _ (.tail _ (.tail _ (.head _)))))) ?_
 refine tS (i := 4) (N := some 160) (v := .agg (stampC x1 x2 x3 x4 x5)) (bn 34 23) rfl HT_.out HW_.out hHeld (fun w' s0 => load5r _ _ _ _ _ _ _ _ rfl rfl (s0.out.get (.tail _ (.tail _ (.head _))))) ?_
 refine oS (i := 3) (N := some 159) (bn 34 31) rfl HT_.out (fun K hK => ?_)
 refine gS Tryz.func6 #[.agg (stampC x1 x2 x3 x4 x5)] rfl ?_
 refine (letterlocklaw11_as.calls x1 x2 x3 x4 x5 x1 x2 x3 x4 x5 _ rfl).mono ?_
 rintro e w1 ⟨rfl, hb⟩
 refine ⟨_, rfl, ?_⟩
 have n0_ := Aside0.mk (hHeld.out.below hb)
 clear hb hHeld
 refine hK.out _ _ n0_ (fun hHeld => ?_)
 clear hK K n0_
 refine nS (some 159) ?_
 refine pS (i := 5) (N := some 161) (bn 34 63) rfl HT_.out ?_
 refine pS (i := 6) (N := some 162) (bn 34 127) rfl HT_.out ?_
 refine pS (i := 7) (N := some 163) (bn 34 255) rfl HT_.out ?_
 refine pS (i := 8) (N := some 164) (bn 34 511) rfl HT_.out ?_
 refine pS (i := 9) (N := some 165) (bn 34 1023) rfl HT_.out ?_
 refine pS (i := 10) (N := some 166) (bn 34 2047) rfl HT_.out ?_
 refine pS (i := 11) (N := some 167) (bn 34 4095) rfl HT_.out ?_
 refine pS (i := 12) (N := some 168) (bn 34 8191) rfl HT_.out ?_
 refine pS (i := 13) (N := some 169) (bn 34 16383) rfl HT_.out ?_
 refine pS (i := 14) (N := some 170) (bn 34 32767) rfl HT_.out ?_
 refine pS (i := 15) (N := some 171) (bn 34 65535) rfl HT_.out ?_
 refine pS (i := 16) (N := some 172) (bn 34 131071) rfl HT_.out ?_
 refine pS (i := 17) (N := some 173) (bn 34 262143) rfl HT_.out ?_
 refine pS (i := 18) (N := some 174) (bn 34 524287) rfl HT_.out ?_
 refine pS (i := 19) (N := some 175) (bn 34 1048575) rfl HT_.out ?_
 refine pS (i := 20) (N := some 176) (bn 34 2097151) rfl HT_.out ?_
 refine pS (i := 21) (N := some 177) (bn 34 4194303) rfl HT_.out ?_
 refine pS (i := 22) (N := some 178) (bn 34 8388607) rfl HT_.out ?_
 refine tS (i := 23) (N := some 179) (v := .agg (stampC u1 u2 u3 u4 u5)) (bn 34 16777215) rfl HT_.out HW_.out hHeld (fun w' s0 => load5s _ _ _ _ _ _ _ _ rfl rfl (s0.out.get (.tail _ (.head _)))) ?_
 refine tS (i := 25) (N := some 181) (v := .agg (stampC u1 u2 u3 u4 u5)) (bn 34 50331647) rfl HT_.out HW_.out hHeld (fun w' s0 => load5r _ _ _ _ _ _ _ _ rfl rfl (s0.out.get (.head _))) ?_
 refine oS (i := 24) (N := some 180) (bn 34 67108863) rfl HT_.out (fun K hK => ?_)
 refine gS Tryz.func6 #[.agg (stampC u1 u2 u3 u4 u5)] rfl ?_
 refine (letterlocklaw11_as.calls u1 u2 u3 u4 u5 u1 u2 u3 u4 u5 _ rfl).mono ?_
 rintro e w1 ⟨rfl, hb⟩
 refine ⟨_, rfl, ?_⟩
 have n0_ := Aside0.mk (hHeld.out.below hb)
 clear hb hHeld
 refine hK.out _ _ n0_ (fun hHeld => ?_)
 clear hK K n0_
 refine nS (some 180) ?_
 refine pS (i := 26) (N := some 182) (bn 34 134217727) rfl HT_.out ?_
 refine pS (i := 27) (N := some 183) (bn 34 268435455) rfl HT_.out ?_
 refine pS (i := 28) (N := some 184) (bn 34 536870911) rfl HT_.out ?_
 refine pS (i := 29) (N := some 185) (bn 34 1073741823) rfl HT_.out ?_
 refine pS (i := 30) (N := some 186) (bn 34 2147483647) rfl HT_.out ?_
 refine pS (i := 31) (N := some 187) (bn 34 4294967295) rfl HT_.out ?_
 refine pS (i := 32) (N := some 188) (bn 34 8589934591) rfl HT_.out ?_
 refine pS (i := 33) (N := some 18) (bn 34 17179869183) rfl HT_.out ?_
 refine done_ (done_of HT_.out (by kernel_rfl)) ?_
 try go_wp2
 go_ret
 exact ⟨by first | rfl | (simp; done), hHeld.out.bel⟩
set_option maxHeartbeats 8000000 in
set_option maxRecDepth 100000 in
theorem tells_none (k : Nat) (o : ByteArray) (t n : Int) (r g b s w_ : ByteArray) (A4 : Option Addr) (c4 : Nat) (l4 : List ByteArray) (a5 a6 a7 : Int) (A8 : Option Addr) (c8 : Nat) (l8 : List ByteArray) (x1 : ByteArray) (x2 x3 : Int) (x4 x5 : ByteArray) (x6 : Int) (p1 : ByteArray) (p2 : Int) (u1 : ByteArray) (u2 u3 : Int) (u4 u5 : ByteArray) (u6 : Int) (rr : Bool) (cc : Int) (vv : Bool) (w : World)
  (hr4 : Kd.C Kd.string w A4 l4.length l4) (hc4 : l4.length ≤ c4) (hr8 : Kd.C Kd.string w A8 l8.length l8) (hc8 : l8.length ≤ c8) (hV : Laid8 w) (hl : ¬ 0 < (l4.length : Int))
  (q1 : ¬ (wrap64 ((wrap64 ((wrap64 ((r.size : Int) + (g.size : Int))) + (o.size : Int))) + (b.size : Int))) > 9000) (q2 : ¬ (wrap64 ((s.size : Int) + (w_.size : Int))) > 9000)
  (a0 : letterlocklaw11_shown.f k = some true) (a1 : letterlocklaw11_light.f k l4 = some true) (a2 : letterlocklaw11_light.f k l8 = some true)
  (a3 : fresh_Build.f k s w_ a5 l4 = some (x1, x2, x3, x4, x5, x6)) (b3 : letterlockref11_Build.f k s w_ a5 l4 = some (x1, x2, x3, x4, x5, x6))
  (a4 : fresh_Put.f k o t n r g = some (p1, p2)) (b4 : letterlockref11_Put.f k o t n r g = some (p1, p2)) (a5_ : fresh_Take.f k b = some (u1, u2, u3, u4, u5, u6)) (b5 : letterlockref11_Take.f k b = some (u1, u2, u3, u4, u5, u6))
  (a6_ : fresh_Right.f k o t n r g = some rr) (b6 : letterlockref11_Right.f k o t n r g = some rr) (a7_ : fresh_Check.f k o t n r g s w_ a5 a6 = some cc) (b7 : letterlockref11_Check.f k o t n r g s w_ a5 a6 = some cc)
  (a8 : fresh_Covers.f k o t n r g a7 s l8 = some vv) (b8 : letterlockref11_Covers.f k o t n r g a7 s l8 = some vv) :
  Calls Tryz.prog 3 #[.agg #[.string o, .int .u64 t, .int .i64 n, .string r, .string g], .string b, .string s, .string w_, .slice A4 l4.length c4, .int .u64 a5, .int .u64 a6, .int .i64 a7, .slice A8 l8.length c8] w fun e w' => e = .returned (.bool true) ∧ Below w.heap.size w w' := by
 have HV := Aside0.mk hV
 have HS := Aside0.mk (Boxes.nil w)
 have HR4 := Aside0.mk hr4
 have HC4 := Aside0.mk hc4
 have HR8 := Aside0.mk hr8
 have HC8 := Aside0.mk hc8
 have A0 := Aside0.mk a0
 have A1 := Aside0.mk a1
 have A2 := Aside0.mk a2
 have A3 := Aside0.mk a3
 have B3 := Aside0.mk b3
 have A4_ := Aside0.mk a4
 have B4_ := Aside0.mk b4
 have A5 := Aside0.mk a5_
 have B5 := Aside0.mk b5
 have A6 := Aside0.mk a6_
 have B6 := Aside0.mk b6
 have A7 := Aside0.mk a7_
 have B7 := Aside0.mk b7
 have A8_ := Aside0.mk a8
 have B8_ := Aside0.mk b8
 have c16b0 : decide (9000 < (wrap64 ((wrap64 ((wrap64 ((r.size : Int) + (g.size : Int))) + (o.size : Int))) + (b.size : Int)))) = false := decide_eq_false q1
 have c17b0 : decide (9000 < (wrap64 ((s.size : Int) + (w_.size : Int)))) = false := decide_eq_false q2
 have c25b0 : decide (0 < (l4.length : Int)) = false := decide_eq_false hl
 have c25b1 : decide (0 < l4.length) = false := decide_eq_false (by omega)
 clear hV hr4 hc4 hr8 hc8 q1 q2 a0 a1 a2 a3 b3 a4 b4 a5_ b5 a6_ b6 a7_ b7 a8 b8
 go_enter Tryz.func3, Tryz.ntmps3
 go_wp2_with (first | ((with_reducible refine gate_dst (N := 9) rfl ?_); refine box_event ?hg (N := 9) ?hd (cs := stampC o t n r g) (t := 24) ?hr ?_; (case hd => rfl); (case hg => rfl); (case hr => first | (go_simp; done) | (go_simp; rfl)); intro g9 hg w1 hbox hb; have n0_ := Aside0.mk (Boxes.box HS.out hg hbox hb); clear HS; have HS := n0_; clear n0_; clear hb hbox hg) | ((with_reducible refine gate_callee (f := 4) rfl ?_); refine gL (some 37) Tryz.func4 #[] rfl ?_; refine (letterlocklaw11_shown.calls k true _ A0.out (Laid8.below HV.out HS.out.bel)).mono ?_; rintro e w1 ⟨rfl, hb⟩; refine ⟨_, rfl, ?_⟩; have n0_ := Aside0.mk (HS.out.below hb); clear HS; have HS := n0_; clear n0_; clear hb) | ((with_reducible refine gate_callee (f := 5) rfl ?_); refine gL (some 39) Tryz.func5 #[.slice A4 l4.length c4] rfl ?_; refine (letterlocklaw11_light.calls k _ _ l4 true _ (Kd.C_below HR4.out HS.out.bel) HC4.out A1.out).mono ?_; rintro e w1 ⟨rfl, hb⟩; refine ⟨_, rfl, ?_⟩; have n0_ := Aside0.mk (HS.out.below hb.below); clear HS; have HS := n0_; clear n0_; clear hb) | ((with_reducible refine gate_callee (f := 5) rfl ?_); refine gL (some 41) Tryz.func5 #[.slice A8 l8.length c8] rfl ?_; refine (letterlocklaw11_light.calls k _ _ l8 true _ (Kd.C_below HR8.out HS.out.bel) HC8.out A2.out).mono ?_; rintro e w1 ⟨rfl, hb⟩; refine ⟨_, rfl, ?_⟩; have n0_ := Aside0.mk (HS.out.below hb.below); clear HS; have HS := n0_; clear n0_; clear hb; have hz0 := (HS.out.cell (cs := stampC o t n r g) (.head _) 0); have hz3 := (HS.out.cell (cs := stampC o t n r g) (.head _) 3); have hz4 := (HS.out.cell (cs := stampC o t n r g) (.head _) 4); simp only [stampC, List.getElem?_toArray, List.getElem?_cons_zero, List.getElem?_cons_succ] at hz0 hz3 hz4) | ((with_reducible refine gate_dst (N := 78) rfl ?_); refine load_event rfl (load5s _ _ _ _ _ _ _ _ rfl rfl (HS.out.get (cs := stampC o t n r g) (.head _))) ?_) | ((with_reducible refine gate_callee (f := 6) rfl ?_); refine gL (some 79) Tryz.func6 #[.agg (stampC o t n r g)] rfl ?_; refine (letterlocklaw11_as.calls o t n r g o t n r g _ rfl).mono ?_; rintro e w1 ⟨rfl, hb⟩; refine ⟨_, rfl, ?_⟩; have n0_ := Aside0.mk (HS.out.below hb); clear HS; have HS := n0_; clear n0_; clear hb) | ((with_reducible refine gate_dst (N := 22) rfl ?_); refine box_event ?hg (N := 22) ?hd (cs := stamp0) (t := 28) ?hr ?_; (case hd => rfl); (case hg => rfl); (case hr => first | (go_simp; done) | (go_simp; rfl)); intro g22 hg w1 hbox hb; have n0_ := Aside0.mk (Boxes.box HS.out hg hbox hb); clear HS; have HS := n0_; clear n0_; clear hb hbox hg) | ((with_reducible refine gate_store (p := 22) rfl ?_); refine store_event rfl rfl (store5r _ _ _ _ _ _ _ _ _ rfl rfl rfl (HS.out.get (.head _))) ?_; have n0_ := Aside0.mk (HS.out.put5 o t n r g); clear HS; have HS := n0_; clear n0_) | ((with_reducible refine gate_callee (f := 7) rfl ?_); refine gL (some 85) Tryz.func7 #[.string s, .string w_, .int .u64 a5, .slice A4 l4.length c4] rfl ?_; refine (fresh_Build.calls k s w_ a5 _ _ l4 x1 x2 x3 x4 x5 x6 _ (Kd.C_below HR4.out HS.out.bel) HC4.out A3.out (Laid8.below HV.out HS.out.bel)).mono ?_; rintro e w1 ⟨rfl, hb⟩; refine ⟨_, rfl, ?_⟩; have n0_ := Aside0.mk (HS.out.below hb); clear HS; have HS := n0_; clear n0_; clear hb) | ((with_reducible refine gate_dst (N := 23) rfl ?_); refine box_event ?hg (N := 23) ?hd (cs := stamp0) (t := 24) ?hr ?_; (case hd => rfl); (case hg => rfl); (case hr => first | (go_simp; done) | (go_simp; rfl)); intro g23 hg w1 hbox hb; have n0_ := Aside0.mk (Boxes.box HS.out hg hbox hb); clear HS; have HS := n0_; clear n0_; clear hb hbox hg) | ((with_reducible refine gate_store (p := 23) rfl ?_); refine store_event rfl rfl (store5s _ _ _ _ _ _ _ _ _ rfl rfl rfl (HS.out.get (.head _))) ?_; have n0_ := Aside0.mk (HS.out.put5 x1 x2 x3 x4 x5); clear HS; have HS := n0_; clear n0_) | ((with_reducible refine gate_callee (f := 8) rfl ?_); refine gL (some 93) Tryz.func8 #[.string s, .string w_, .int .u64 a5, .slice A4 l4.length c4] rfl ?_; refine (letterlockref11_Build.calls k s w_ a5 _ _ l4 x1 x2 x3 x4 x5 x6 _ (Kd.C_below HR4.out HS.out.bel) HC4.out B3.out).mono ?_; rintro e w1 ⟨rfl, hb⟩; refine ⟨_, rfl, ?_⟩; have n0_ := Aside0.mk (HS.out.below hb); clear HS; have HS := n0_; clear n0_; clear hb) | ((with_reducible refine gate_dst (N := 25) rfl ?_); refine box_event ?hg (N := 25) ?hd (cs := stamp0) (t := 28) ?hr ?_; (case hd => rfl); (case hg => rfl); (case hr => first | (go_simp; done) | (go_simp; rfl)); intro g25 hg w1 hbox hb; have n0_ := Aside0.mk (Boxes.box HS.out hg hbox hb); clear HS; have HS := n0_; clear n0_; clear hb hbox hg) | ((with_reducible refine gate_store (p := 25) rfl ?_); refine store_event rfl rfl (store5r _ _ _ _ _ _ _ _ _ rfl rfl rfl (HS.out.get (.head _))) ?_; have n0_ := Aside0.mk (HS.out.put5 x1 x2 x3 x4 x5); clear HS; have HS := n0_; clear n0_) | ((with_reducible refine gate_dst (N := 97) rfl ?_); refine load_event rfl (load5s _ _ _ _ _ _ _ _ rfl rfl (HS.out.get (cs := stampC o t n r g) (.tail _ (.tail _ (.tail _ (.head _)))))) ?_) | ((with_reducible refine gate_callee (f := 9) rfl ?_); refine gL (some 98) Tryz.func9 #[.agg (stampC o t n r g)] rfl ?_; refine (fresh_Put.calls k o t n r g p1 p2 _ A4_.out (Laid8.below HV.out HS.out.bel)).mono ?_; rintro e w1 ⟨rfl, hb⟩; refine ⟨_, rfl, ?_⟩; have n0_ := Aside0.mk (HS.out.below hb); clear HS; have HS := n0_; clear n0_; clear hb) | ((with_reducible refine gate_dst (N := 102) rfl ?_); refine load_event rfl (load5r _ _ _ _ _ _ _ _ rfl rfl (HS.out.get (cs := stampC o t n r g) (.tail _ (.tail _ (.head _))))) ?_) | ((with_reducible refine gate_callee (f := 10) rfl ?_); refine gL (some 103) Tryz.func10 #[.agg (stampC o t n r g)] rfl ?_; refine (letterlockref11_Put.calls k o t n r g p1 p2 _ B4_.out).mono ?_; rintro e w1 ⟨rfl, hb⟩; refine ⟨_, rfl, ?_⟩; have n0_ := Aside0.mk (HS.out.below hb); clear HS; have HS := n0_; clear n0_; clear hb) | ((with_reducible refine gate_callee (f := 11) rfl ?_); refine gL (some 108) Tryz.func11 #[.string b] rfl ?_; refine (fresh_Take.calls k b u1 u2 u3 u4 u5 u6 _ A5.out (Laid8.below HV.out HS.out.bel)).mono ?_; rintro e w1 ⟨rfl, hb⟩; refine ⟨_, rfl, ?_⟩; have n0_ := Aside0.mk (HS.out.below hb); clear HS; have HS := n0_; clear n0_; clear hb) | ((with_reducible refine gate_dst (N := 31) rfl ?_); refine box_event ?hg (N := 31) ?hd (cs := stamp0) (t := 24) ?hr ?_; (case hd => rfl); (case hg => rfl); (case hr => first | (go_simp; done) | (go_simp; rfl)); intro g31 hg w1 hbox hb; have n0_ := Aside0.mk (Boxes.box HS.out hg hbox hb); clear HS; have HS := n0_; clear n0_; clear hb hbox hg) | ((with_reducible refine gate_store (p := 31) rfl ?_); refine store_event rfl rfl (store5s _ _ _ _ _ _ _ _ _ rfl rfl rfl (HS.out.get (.head _))) ?_; have n0_ := Aside0.mk (HS.out.put5 u1 u2 u3 u4 u5); clear HS; have HS := n0_; clear n0_) | ((with_reducible refine gate_callee (f := 12) rfl ?_); refine gL (some 113) Tryz.func12 #[.string b] rfl ?_; refine (letterlockref11_Take.calls k b u1 u2 u3 u4 u5 u6 _ B5.out).mono ?_; rintro e w1 ⟨rfl, hb⟩; refine ⟨_, rfl, ?_⟩; have n0_ := Aside0.mk (HS.out.below hb); clear HS; have HS := n0_; clear n0_; clear hb) | ((with_reducible refine gate_dst (N := 33) rfl ?_); refine box_event ?hg (N := 33) ?hd (cs := stamp0) (t := 28) ?hr ?_; (case hd => rfl); (case hg => rfl); (case hr => first | (go_simp; done) | (go_simp; rfl)); intro g33 hg w1 hbox hb; have n0_ := Aside0.mk (Boxes.box HS.out hg hbox hb); clear HS; have HS := n0_; clear n0_; clear hb hbox hg) | ((with_reducible refine gate_store (p := 33) rfl ?_); refine store_event rfl rfl (store5r _ _ _ _ _ _ _ _ _ rfl rfl rfl (HS.out.get (.head _))) ?_; have n0_ := Aside0.mk (HS.out.put5 u1 u2 u3 u4 u5); clear HS; have HS := n0_; clear n0_))
 have n0_ := Aside0.mk HS.out.drew
 clear HS
 refine start_ (n := 34) (S := fun w' => Aside0 (Boxes w w' [(g33, 28, stampC u1 u2 u3 u4 u5), (g31, 24, stampC u1 u2 u3 u4 u5), (g25, 28, stampC x1 x2 x3 x4 x5), (g23, 24, stampC x1 x2 x3 x4 x5), (g22, 28, stampC o t n r g), (g9, 24, stampC o t n r g)])) (ds := []) (bn 34 0) (by kernel_rfl) rfl (by kernel_rfl) n0_ (fun hHeld => ?_); refine with_tabW tells.tab16 tells.bits16 (fun HT_ HW_ => ?_)
 clear n0_
 refine tS (i := 0) (N := some 123) (v := .agg (stampC o t n r g)) (bn 34 1) rfl HT_.out HW_.out hHeld (fun w' s0 => load5s _ _ _ _ _ _ _ _ rfl rfl (s0.out.get (.tail _ (.tail _ (.tail _ (.tail _ (.tail _ (.head _)))))))) ?_
 refine tS (i := 2) (N := some 125) (v := .agg (stampC o t n r g)) (bn 34 5) rfl HT_.out HW_.out hHeld (fun w' s0 => load5r _ _ _ _ _ _ _ _ rfl rfl (s0.out.get (.tail _ (.tail _ (.tail _ (.tail _ (.head _))))))) ?_
 refine oS (i := 1) (N := some 124) (bn 34 7) rfl HT_.out (fun K hK => ?_)
 refine gS Tryz.func13 #[.agg (stampC o t n r g)] rfl ?_
 refine (fresh_Right.calls k o t n r g rr _ A6.out (Laid8.below HV.out hHeld.out.bel)).mono ?_
 rintro e w1 ⟨rfl, hb⟩
 refine ⟨_, rfl, ?_⟩
 have n0_ := Aside0.mk (hHeld.out.below hb)
 clear hb hHeld
 refine hK.out _ _ n0_ (fun hHeld => ?_)
 clear hK K n0_
 refine nS (some 124) ?_
 refine oS (i := 3) (N := some 126) (bn 34 15) rfl HT_.out (fun K hK => ?_)
 refine gS Tryz.func14 #[.agg (stampC o t n r g)] rfl ?_
 refine (letterlockref11_Right.calls k o t n r g rr _ B6.out).mono ?_
 rintro e w1 ⟨rfl, hb⟩
 refine ⟨_, rfl, ?_⟩
 have n0_ := Aside0.mk (hHeld.out.below hb)
 clear hb hHeld
 refine hK.out _ _ n0_ (fun hHeld => ?_)
 clear hK K n0_
 refine nS (some 126) ?_
 refine pS (i := 4) (N := some 127) (bn 34 31) rfl HT_.out ?_
 refine pS (i := 5) (N := some 128) (bn 34 63) rfl HT_.out ?_
 refine pS (i := 7) (N := some 130) (bn 34 191) rfl HT_.out ?_
 refine pS (i := 8) (N := some 131) (bn 34 447) rfl HT_.out ?_
 refine pS (i := 9) (N := some 132) (bn 34 959) rfl HT_.out ?_
 refine pS (i := 10) (N := some 133) (bn 34 1983) rfl HT_.out ?_
 refine pS (i := 13) (N := some 136) (bn 34 10175) rfl HT_.out ?_
 refine pS (i := 14) (N := some 137) (bn 34 26559) rfl HT_.out ?_
 refine pS (i := 15) (N := some 138) (bn 34 59327) rfl HT_.out ?_
 refine pS (i := 16) (N := some 139) (bn 34 124863) rfl HT_.out ?_
 refine tS (i := 6) (N := some 129) (v := .agg (stampC o t n r g)) (bn 34 124927) rfl HT_.out HW_.out hHeld (fun w' s0 => load5s _ _ _ _ _ _ _ _ rfl rfl (s0.out.get (.tail _ (.tail _ (.tail _ (.tail _ (.tail _ (.head _)))))))) ?_
 refine tS (i := 12) (N := some 135) (v := .agg (stampC o t n r g)) (bn 34 129023) rfl HT_.out HW_.out hHeld (fun w' s0 => load5r _ _ _ _ _ _ _ _ rfl rfl (s0.out.get (.tail _ (.tail _ (.tail _ (.tail _ (.head _))))))) ?_
 refine oS (i := 11) (N := some 134) (bn 34 131071) rfl HT_.out (fun K hK => ?_)
 refine gS Tryz.func15 #[.agg (stampC o t n r g), .string s, .string w_, .int .u64 a5, .int .u64 a6] rfl ?_
 refine (fresh_Check.calls k o t n r g s w_ a5 a6 cc _ A7.out (Laid8.below HV.out hHeld.out.bel)).mono ?_
 rintro e w1 ⟨rfl, hb⟩
 refine ⟨_, rfl, ?_⟩
 have n0_ := Aside0.mk (hHeld.out.below hb)
 clear hb hHeld
 refine hK.out _ _ n0_ (fun hHeld => ?_)
 clear hK K n0_
 refine nS (some 134) ?_
 refine oS (i := 17) (N := some 140) (bn 34 262143) rfl HT_.out (fun K hK => ?_)
 refine gS Tryz.func16 #[.agg (stampC o t n r g), .string s, .string w_, .int .u64 a5, .int .u64 a6] rfl ?_
 refine (letterlockref11_Check.calls k o t n r g s w_ a5 a6 cc _ B7.out).mono ?_
 rintro e w1 ⟨rfl, hb⟩
 refine ⟨_, rfl, ?_⟩
 have n0_ := Aside0.mk (hHeld.out.below hb)
 clear hb hHeld
 refine hK.out _ _ n0_ (fun hHeld => ?_)
 clear hK K n0_
 refine nS (some 140) ?_
 refine pS (i := 18) (N := some 141) (bn 34 524287) rfl HT_.out ?_
 refine pS (i := 19) (N := some 142) (bn 34 1048575) rfl HT_.out ?_
 refine pS (i := 20) (N := some 143) (bn 34 2097151) rfl HT_.out ?_
 refine pS (i := 22) (N := some 145) (bn 34 6291455) rfl HT_.out ?_
 refine pS (i := 23) (N := some 146) (bn 34 14680063) rfl HT_.out ?_
 refine pS (i := 24) (N := some 147) (bn 34 31457279) rfl HT_.out ?_
 refine pS (i := 27) (N := some 150) (bn 34 165675007) rfl HT_.out ?_
 refine pS (i := 28) (N := some 151) (bn 34 434110463) rfl HT_.out ?_
 refine pS (i := 29) (N := some 152) (bn 34 970981375) rfl HT_.out ?_
 refine tS (i := 21) (N := some 144) (v := .agg (stampC o t n r g)) (bn 34 973078527) rfl HT_.out HW_.out hHeld (fun w' s0 => load5s _ _ _ _ _ _ _ _ rfl rfl (s0.out.get (.tail _ (.tail _ (.tail _ (.tail _ (.tail _ (.head _)))))))) ?_
 refine tS (i := 26) (N := some 149) (v := .agg (stampC o t n r g)) (bn 34 1040187391) rfl HT_.out HW_.out hHeld (fun w' s0 => load5r _ _ _ _ _ _ _ _ rfl rfl (s0.out.get (.tail _ (.tail _ (.tail _ (.tail _ (.head _))))))) ?_
 refine oS (i := 25) (N := some 148) (bn 34 1073741823) rfl HT_.out (fun K hK => ?_)
 refine gS Tryz.func17 #[.agg (stampC o t n r g), .int .i64 a7, .string s, .slice A8 l8.length c8] rfl ?_
 refine (fresh_Covers.calls k o t n r g a7 s _ _ l8 vv _ (Kd.C_below HR8.out hHeld.out.bel) HC8.out A8_.out (Laid8.below HV.out hHeld.out.bel)).mono ?_
 rintro e w1 ⟨rfl, hb⟩
 refine ⟨_, rfl, ?_⟩
 have n0_ := Aside0.mk (hHeld.out.below hb)
 clear hb hHeld
 refine hK.out _ _ n0_ (fun hHeld => ?_)
 clear hK K n0_
 refine nS (some 148) ?_
 refine oS (i := 30) (N := some 153) (bn 34 2147483647) rfl HT_.out (fun K hK => ?_)
 refine gS Tryz.func18 #[.agg (stampC o t n r g), .int .i64 a7, .string s, .slice A8 l8.length c8] rfl ?_
 refine (letterlockref11_Covers.calls k o t n r g a7 s _ _ l8 vv _ (Kd.C_below HR8.out hHeld.out.bel) HC8.out B8_.out).mono ?_
 rintro e w1 ⟨rfl, hb⟩
 refine ⟨_, rfl, ?_⟩
 have n0_ := Aside0.mk (hHeld.out.below hb)
 clear hb hHeld
 refine hK.out _ _ n0_ (fun hHeld => ?_)
 clear hK K n0_
 refine nS (some 153) ?_
 refine pS (i := 31) (N := some 154) (bn 34 4294967295) rfl HT_.out ?_
 refine pS (i := 32) (N := some 155) (bn 34 8589934591) rfl HT_.out ?_
 refine pS (i := 33) (N := some 36) (bn 34 17179869183) rfl HT_.out ?_
 refine done_ (done_of HT_.out (by kernel_rfl)) ?_
 have HS := hHeld
 clear hHeld
 try go_wp2
 have n0_ := Aside0.mk HS.out.drew
 clear HS
 refine start_ (n := 34) (S := fun w' => Aside0 (Boxes w w' [(g33, 28, stampC u1 u2 u3 u4 u5), (g31, 24, stampC u1 u2 u3 u4 u5), (g25, 28, stampC x1 x2 x3 x4 x5), (g23, 24, stampC x1 x2 x3 x4 x5), (g22, 28, stampC o t n r g), (g9, 24, stampC o t n r g)])) (ds := []) (bn 34 0) (by kernel_rfl) rfl (by kernel_rfl) n0_ (fun hHeld => ?_); refine with_tabW tells.tab17 tells.bits17 (fun HT_ HW_ => ?_)
 clear n0_
 refine pS (i := 0) (N := some 156) (bn 34 1) rfl HT_.out ?_
 refine pS (i := 1) (N := some 157) (bn 34 3) rfl HT_.out ?_
 refine tS (i := 2) (N := some 158) (v := .agg (stampC x1 x2 x3 x4 x5)) (bn 34 7) rfl HT_.out HW_.out hHeld (fun w' s0 => load5s _ _ _ _ _ _ _ _ rfl rfl (s0.out.get (.tail _ (.tail _ (.tail _ (.head _)))))) ?_
 refine tS (i := 4) (N := some 160) (v := .agg (stampC x1 x2 x3 x4 x5)) (bn 34 23) rfl HT_.out HW_.out hHeld (fun w' s0 => load5r _ _ _ _ _ _ _ _ rfl rfl (s0.out.get (.tail _ (.tail _ (.head _))))) ?_
 refine oS (i := 3) (N := some 159) (bn 34 31) rfl HT_.out (fun K hK => ?_)
 refine gS Tryz.func6 #[.agg (stampC x1 x2 x3 x4 x5)] rfl ?_
 refine (letterlocklaw11_as.calls x1 x2 x3 x4 x5 x1 x2 x3 x4 x5 _ rfl).mono ?_
 rintro e w1 ⟨rfl, hb⟩
 refine ⟨_, rfl, ?_⟩
 have n0_ := Aside0.mk (hHeld.out.below hb)
 clear hb hHeld
 refine hK.out _ _ n0_ (fun hHeld => ?_)
 clear hK K n0_
 refine nS (some 159) ?_
 refine pS (i := 5) (N := some 161) (bn 34 63) rfl HT_.out ?_
 refine pS (i := 6) (N := some 162) (bn 34 127) rfl HT_.out ?_
 refine pS (i := 7) (N := some 163) (bn 34 255) rfl HT_.out ?_
 refine pS (i := 8) (N := some 164) (bn 34 511) rfl HT_.out ?_
 refine pS (i := 9) (N := some 165) (bn 34 1023) rfl HT_.out ?_
 refine pS (i := 10) (N := some 166) (bn 34 2047) rfl HT_.out ?_
 refine pS (i := 11) (N := some 167) (bn 34 4095) rfl HT_.out ?_
 refine pS (i := 12) (N := some 168) (bn 34 8191) rfl HT_.out ?_
 refine pS (i := 13) (N := some 169) (bn 34 16383) rfl HT_.out ?_
 refine pS (i := 14) (N := some 170) (bn 34 32767) rfl HT_.out ?_
 refine pS (i := 15) (N := some 171) (bn 34 65535) rfl HT_.out ?_
 refine pS (i := 16) (N := some 172) (bn 34 131071) rfl HT_.out ?_
 refine pS (i := 17) (N := some 173) (bn 34 262143) rfl HT_.out ?_
 refine pS (i := 18) (N := some 174) (bn 34 524287) rfl HT_.out ?_
 refine pS (i := 19) (N := some 175) (bn 34 1048575) rfl HT_.out ?_
 refine pS (i := 20) (N := some 176) (bn 34 2097151) rfl HT_.out ?_
 refine pS (i := 21) (N := some 177) (bn 34 4194303) rfl HT_.out ?_
 refine pS (i := 22) (N := some 178) (bn 34 8388607) rfl HT_.out ?_
 refine tS (i := 23) (N := some 179) (v := .agg (stampC u1 u2 u3 u4 u5)) (bn 34 16777215) rfl HT_.out HW_.out hHeld (fun w' s0 => load5s _ _ _ _ _ _ _ _ rfl rfl (s0.out.get (.tail _ (.head _)))) ?_
 refine tS (i := 25) (N := some 181) (v := .agg (stampC u1 u2 u3 u4 u5)) (bn 34 50331647) rfl HT_.out HW_.out hHeld (fun w' s0 => load5r _ _ _ _ _ _ _ _ rfl rfl (s0.out.get (.head _))) ?_
 refine oS (i := 24) (N := some 180) (bn 34 67108863) rfl HT_.out (fun K hK => ?_)
 refine gS Tryz.func6 #[.agg (stampC u1 u2 u3 u4 u5)] rfl ?_
 refine (letterlocklaw11_as.calls u1 u2 u3 u4 u5 u1 u2 u3 u4 u5 _ rfl).mono ?_
 rintro e w1 ⟨rfl, hb⟩
 refine ⟨_, rfl, ?_⟩
 have n0_ := Aside0.mk (hHeld.out.below hb)
 clear hb hHeld
 refine hK.out _ _ n0_ (fun hHeld => ?_)
 clear hK K n0_
 refine nS (some 180) ?_
 refine pS (i := 26) (N := some 182) (bn 34 134217727) rfl HT_.out ?_
 refine pS (i := 27) (N := some 183) (bn 34 268435455) rfl HT_.out ?_
 refine pS (i := 28) (N := some 184) (bn 34 536870911) rfl HT_.out ?_
 refine pS (i := 29) (N := some 185) (bn 34 1073741823) rfl HT_.out ?_
 refine pS (i := 30) (N := some 186) (bn 34 2147483647) rfl HT_.out ?_
 refine pS (i := 31) (N := some 187) (bn 34 4294967295) rfl HT_.out ?_
 refine pS (i := 32) (N := some 188) (bn 34 8589934591) rfl HT_.out ?_
 refine pS (i := 33) (N := some 18) (bn 34 17179869183) rfl HT_.out ?_
 refine done_ (done_of HT_.out (by kernel_rfl)) ?_
 try go_wp2
 go_ret
 exact ⟨by first | rfl | (simp; done), hHeld.out.bel⟩
end Go.Proofs.YtodiffgpefidoaaGreatDoor.P

