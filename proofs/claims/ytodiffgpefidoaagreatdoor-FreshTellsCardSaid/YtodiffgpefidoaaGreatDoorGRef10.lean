/- Slimmed by wip/slim.py. -/
import Derived.Test.YtodiffgpefidoaaGreatDoorG0
import Derived.Test.YtodiffgpefidoaaGreatDoorGRef3
namespace Go.Proofs.YtodiffgpefidoaaGreatDoor.P
open Go.RowKit Go.Proofs.YtodiffgpefidoaaGreatDoorW.PrintWords Go.Proofs.YtodiffgpefidoaaGreatDoorW.PrintLast Go.Proofs.YtodiffgpefidoaaGreatDoorW.PrintMore
attribute [local go_sem] max2_int min2_int max_two min_two max_three min_three max_four min_four
set_option linter.unusedVariables false
set_option linter.unusedSimpArgs false
def letterlockref10_leaf.f (k : Nat) (a0 : ByteArray) : Option (Bool) := (letterlockref3_Kind.f k a0).bind fun t331 => (if t331 = 112 then ((letterlockref3_Parts.f k a0).bind fun bt332 => (if 0 < (bt332.1.length : Int) then (if 0 < ((rdOf ByteArray.empty bt332.1 0).size : Int) then (if (bt (rdOf ByteArray.empty bt332.1 0) 0) = 116 then (if 1 < (bt332.1.length : Int) then (if 0 < ((rdOf ByteArray.empty bt332.1 1).size : Int) then (some ((bt (rdOf ByteArray.empty bt332.1 1) 0) == 97)) else (none)) else (none)) else (some false)) else (none)) else (none))) else (some false))
set_option maxHeartbeats 8000000 in
set_option maxRecDepth 100000 in
theorem letterlockref10_leaf.calls (k : Nat) (a0 : ByteArray) (r : Bool) (w : World) (h : letterlockref10_leaf.f k a0 = some r) :
  Calls Tryz.prog 64 #[.string a0] w fun e w' => e = .returned (.bool r) ∧ Below w.heap.size w w' := by
 have HB := Aside0.mk (Below.refl w.heap.size w)
 unfold letterlockref10_leaf.f at h
 have H := h
 clear h
 replace H := Option.bind_eq_some_iff.mp H
 obtain ⟨t331, A20, H⟩ := H
 try dsimp only at H
 have A2 := Aside0.mk A20
 clear A20
 by_cases c3 : t331 = 112
 ·rw [if_pos c3] at H
  have c3b0 : (t331 == 112) = true := beq_iff_eq.mpr c3
  have c3b1 : (t331 != 112) = false := bne_eq_false_iff_eq.mpr c3
  clear c3
  replace H := Option.bind_eq_some_iff.mp H
  obtain ⟨⟨t332, t333⟩, A40, H⟩ := H
  try dsimp only at H
  have A4 := Aside0.mk A40
  clear A40
  by_cases c5 : 0 < (t332.length : Int)
  ·rw [if_pos c5] at H
   have c5b0 : decide (0 < (t332.length : Int)) = true := decide_eq_true c5
   have c5b1 : decide (0 < t332.length) = true := decide_eq_true (by omega)
   clear c5
   by_cases c6 : 0 < ((rdOf ByteArray.empty t332 0).size : Int)
   ·rw [if_pos c6] at H
    have c6b0 : decide (0 < ((rdOf ByteArray.empty t332 0).size : Int)) = true := decide_eq_true c6
    have c6b1 : decide (0 < (rdOf ByteArray.empty t332 0).size) = true := decide_eq_true (by omega)
    (try (have c6b0n := c6b0; simp only [ByteArray.size_append, ByteArray.size_extract, Nat.min_self, size_lit1, Int.natCast_add, Int.natCast_one] at c6b0n))
    (try (have c6b1n := c6b1; simp only [ByteArray.size_append, ByteArray.size_extract, Nat.min_self, size_lit1, Int.natCast_add, Int.natCast_one] at c6b1n))
    clear c6
    by_cases c8 : (bt (rdOf ByteArray.empty t332 0) 0) = 116
    ·rw [if_pos c8] at H
     have c8b0 : ((bt (rdOf ByteArray.empty t332 0) 0) == 116) = true := beq_iff_eq.mpr c8
     have c8b1 : ((bt (rdOf ByteArray.empty t332 0) 0) != 116) = false := bne_eq_false_iff_eq.mpr c8
     clear c8
     by_cases c9 : 1 < (t332.length : Int)
     ·rw [if_pos c9] at H
      have c9b0 : decide (1 < (t332.length : Int)) = true := decide_eq_true c9
      have c9b1 : decide (1 < t332.length) = true := decide_eq_true (by omega)
      clear c9
      by_cases c10 : 0 < ((rdOf ByteArray.empty t332 1).size : Int)
      ·rw [if_pos c10] at H
       have c10b0 : decide (0 < ((rdOf ByteArray.empty t332 1).size : Int)) = true := decide_eq_true c10
       have c10b1 : decide (0 < (rdOf ByteArray.empty t332 1).size) = true := decide_eq_true (by omega)
       (try (have c10b0n := c10b0; simp only [ByteArray.size_append, ByteArray.size_extract, Nat.min_self, size_lit1, Int.natCast_add, Int.natCast_one] at c10b0n))
       (try (have c10b1n := c10b1; simp only [ByteArray.size_append, ByteArray.size_extract, Nat.min_self, size_lit1, Int.natCast_add, Int.natCast_one] at c10b1n))
       clear c10
       obtain rfl := Option.some.inj H
       go_enter Tryz.func64, Tryz.ntmps64
       go_wp2_with (first | ((with_reducible refine gate_callee (f := 41) rfl ?_); refine gL (some 6) Tryz.func41 #[.string a0] rfl ?_; (with_reducible refine (letterlockref3_Kind.calls k a0 t331 _ A2.out).mono ?_); rintro e w12 ⟨rfl, hb⟩; refine ⟨_, rfl, ?_⟩; have n0_ := Aside0.mk (below_step bl_ hb); clear HB; have HB := n0_; clear n0_; (try clear hb)) | ((with_reducible refine gate_callee (f := 93) rfl ?_); refine gL (some 10) Tryz.func93 #[.string a0] rfl ?_; (with_reducible refine (letterlockref3_Parts.calls k a0 t332 t333 _ A4.out).mono ?_); rintro e w13 ⟨v334, rfl, ho0, hb⟩; refine ⟨_, rfl, ?_⟩; have n0_ := Aside0.mk (Kd.R_lower ho0 (below_size bl_)); have n1_ := Aside0.mk (below_step bl_ hb); clear HB; have HO335 := n0_; have HB := n1_; clear n0_ n1_; (try clear hb); (try clear ho0); obtain ⟨Ao14, co14, eo14⟩ := Kd.R_slice HO335.out; subst eo14; have p336 : 0 ≤ (0 : Int) := (by omega); have q336 : 0 < (t332.length : Int) := of_decide_eq_true (by first | (with_reducible assumption) | assumption); obtain ⟨ad336, e336, hx336_0⟩ := Kd.at_string (Kd.R_reads' HO335.out).2.2 0 p336 q336; cases e336; have qi336 : (0 < t332.length) = True := eq_true (by omega); (try rw [show ((0 : Int)).toNat = 0 from rfl] at hx336_0); (try rw [Addr.add_zero'] at hx336_0); replace p336 := eq_true p336; replace q336 := eq_true q336; have p7 : 0 ≤ (0 : Int) := (by omega); have q7 : 0 < (rdOf ByteArray.empty t332 0).size := (by have : (0 : Int) < ((rdOf ByteArray.empty t332 0).size : Int) := of_decide_eq_true (by first | (with_reducible assumption) | assumption); omega); have hx7 : ∀ h : 0 < (rdOf ByteArray.empty t332 0).size, (((rdOf ByteArray.empty t332 0)[0]'h).toNat : Int) = bt (rdOf ByteArray.empty t332 0) 0 := bt_at (rdOf ByteArray.empty t332 0) 0; clear p7; have qi7 : (0 < ((rdOf ByteArray.empty t332 0).size : Int)) = True := eq_true (of_decide_eq_true (by first | (with_reducible assumption) | assumption)); replace q7 := eq_true q7; have p337 : 0 ≤ (1 : Int) := (by omega); have q337 : 1 < (t332.length : Int) := of_decide_eq_true (by first | (with_reducible assumption) | assumption); obtain ⟨ad337, e337, hx337_0⟩ := Kd.at_string (Kd.R_reads' HO335.out).2.2 1 p337 q337; obtain rfl : ad336 = ad337 := (by injection e337); (try simp only [show (1 : Int).toNat = 1 from rfl, Nat.reduceMul, Nat.reduceEqDiff, Go.Addr.add, ↓reduceIte] at hx337_0); have qi337 : (1 < t332.length) = True := eq_true (by omega); (try rw [show ((1 : Int)).toNat = 1 from rfl] at hx337_0); replace p337 := eq_true p337; replace q337 := eq_true q337; have p11 : 0 ≤ (0 : Int) := (by omega); have q11 : 0 < (rdOf ByteArray.empty t332 1).size := (by have : (0 : Int) < ((rdOf ByteArray.empty t332 1).size : Int) := of_decide_eq_true (by first | (with_reducible assumption) | assumption); omega); have hx11 : ∀ h : 0 < (rdOf ByteArray.empty t332 1).size, (((rdOf ByteArray.empty t332 1)[0]'h).toNat : Int) = bt (rdOf ByteArray.empty t332 1) 0 := bt_at (rdOf ByteArray.empty t332 1) 0; clear p11; have qi11 : (0 < ((rdOf ByteArray.empty t332 1).size : Int)) = True := eq_true (of_decide_eq_true (by first | (with_reducible assumption) | assumption)); replace q11 := eq_true q11))
       go_ret
       exact ⟨eq_, bl_⟩
      ·rw [if_neg c10] at H
       exact absurd H (by simp)
     ·rw [if_neg c9] at H
      exact absurd H (by simp)
    ·rw [if_neg c8] at H
     have c8b0 : ((bt (rdOf ByteArray.empty t332 0) 0) == 116) = false := beq_eq_false_iff_ne.mpr c8
     have c8b1 : ((bt (rdOf ByteArray.empty t332 0) 0) != 116) = true := bne_iff_ne.mpr c8
     obtain rfl := Option.some.inj H
     go_enter Tryz.func64, Tryz.ntmps64
     go_wp2_with (first | ((with_reducible refine gate_callee (f := 41) rfl ?_); refine gL (some 6) Tryz.func41 #[.string a0] rfl ?_; (with_reducible refine (letterlockref3_Kind.calls k a0 t331 _ A2.out).mono ?_); rintro e w15 ⟨rfl, hb⟩; refine ⟨_, rfl, ?_⟩; have n0_ := Aside0.mk (below_step bl_ hb); clear HB; have HB := n0_; clear n0_; (try clear hb)) | ((with_reducible refine gate_callee (f := 93) rfl ?_); refine gL (some 10) Tryz.func93 #[.string a0] rfl ?_; (with_reducible refine (letterlockref3_Parts.calls k a0 t332 t333 _ A4.out).mono ?_); rintro e w16 ⟨v334, rfl, ho0, hb⟩; refine ⟨_, rfl, ?_⟩; have n0_ := Aside0.mk (Kd.R_lower ho0 (below_size bl_)); have n1_ := Aside0.mk (below_step bl_ hb); clear HB; have HO335 := n0_; have HB := n1_; clear n0_ n1_; (try clear hb); (try clear ho0); obtain ⟨Ao17, co17, eo17⟩ := Kd.R_slice HO335.out; subst eo17; have p336 : 0 ≤ (0 : Int) := (by omega); have q336 : 0 < (t332.length : Int) := of_decide_eq_true (by first | (with_reducible assumption) | assumption); obtain ⟨ad336, e336, hx336_0⟩ := Kd.at_string (Kd.R_reads' HO335.out).2.2 0 p336 q336; cases e336; have qi336 : (0 < t332.length) = True := eq_true (by omega); (try rw [show ((0 : Int)).toNat = 0 from rfl] at hx336_0); (try rw [Addr.add_zero'] at hx336_0); replace p336 := eq_true p336; replace q336 := eq_true q336; have p7 : 0 ≤ (0 : Int) := (by omega); have q7 : 0 < (rdOf ByteArray.empty t332 0).size := (by have : (0 : Int) < ((rdOf ByteArray.empty t332 0).size : Int) := of_decide_eq_true (by first | (with_reducible assumption) | assumption); omega); have hx7 : ∀ h : 0 < (rdOf ByteArray.empty t332 0).size, (((rdOf ByteArray.empty t332 0)[0]'h).toNat : Int) = bt (rdOf ByteArray.empty t332 0) 0 := bt_at (rdOf ByteArray.empty t332 0) 0; clear p7; have qi7 : (0 < ((rdOf ByteArray.empty t332 0).size : Int)) = True := eq_true (of_decide_eq_true (by first | (with_reducible assumption) | assumption)); replace q7 := eq_true q7))
     go_ret
     exact ⟨eq_, bl_⟩
   ·rw [if_neg c6] at H
    exact absurd H (by simp)
  ·rw [if_neg c5] at H
   exact absurd H (by simp)
 ·rw [if_neg c3] at H
  have c3b0 : (t331 == 112) = false := beq_eq_false_iff_ne.mpr c3
  have c3b1 : (t331 != 112) = true := bne_iff_ne.mpr c3
  obtain rfl := Option.some.inj H
  go_enter Tryz.func64, Tryz.ntmps64
  go_wp2_with (first | ((with_reducible refine gate_callee (f := 41) rfl ?_); refine gL (some 6) Tryz.func41 #[.string a0] rfl ?_; (with_reducible refine (letterlockref3_Kind.calls k a0 t331 _ A2.out).mono ?_); rintro e w18 ⟨rfl, hb⟩; refine ⟨_, rfl, ?_⟩; have n0_ := Aside0.mk (below_step bl_ hb); clear HB; have HB := n0_; clear n0_; (try clear hb)))
  go_ret
  exact ⟨eq_, bl_⟩
def letterlockref10_first.l0 : Nat → Int → Int → Option (Int)
 | 0, _, _ => none
 | k + 1, x0, x3 => if (wrap64 (2 * x3)) < x0 then (letterlockref10_first.l0 k x0 (wrap64 (2 * x3))) else (some x3)
def letterlockref10_first.f (k : Nat) (a0 : Int) : Option (Int) := letterlockref10_first.l0 k a0 1
set_option maxHeartbeats 8000000 in
set_option maxRecDepth 100000 in
theorem letterlockref10_first.calls (k : Nat) (a0 : Int) (r : Int) (w : World) (h : letterlockref10_first.f k a0 = some r) :
  Calls Tryz.prog 94 #[.int .i64 a0] w fun e w' => e = .returned (.int .i64 r) ∧ Drawn0 w w' := by
 unfold letterlockref10_first.f at h
 have H := h
 clear h
 have H' := Aside0.mk H
 clear H
 go_enter Tryz.func94, Tryz.ntmps94
 go_wp2
 go_loopg [3] k (fun kq v3 w' => ∃ (x3_1 : Int), v3 = .int .i64 x3_1 ∧ Aside0 (letterlockref10_first.l0 kq a0 x3_1 = some r) ∧ Aside0 (kq ≤ k) ∧ Drawn0 w w')
 case atStart => exact ⟨(1), es_, H', ⟨Nat.le_refl _⟩, by repeat (first | exact Drawn0.refl _ | apply Drawn0.step)⟩
 case round =>
  clear H'
  obtain ⟨x3_1, rfl, HA, HK1, ⟨m1, rfl⟩⟩ := hrel
  cases gk with
  | zero => exact absurd HA.out (by simp [letterlockref10_first.l0])
  | succ k1 =>
   have H := HA.out
   clear HA
   simp only [letterlockref10_first.l0] at H
   by_cases c2 : (wrap64 (2 * x3_1)) < a0
   ·rw [if_pos c2] at H
    have c2b0 : decide ((wrap64 (2 * x3_1)) < a0) = true := decide_eq_true c2
    clear c2
    have H' := Aside0.mk H
    clear H
    go_wp2
    go_roundg k1
    case measure => have := HK1.out; omega
    case rel => exact ⟨(wrap64 (2 * x3_1)), es_, H', ⟨by have := HK1.out; omega⟩, by repeat (first | exact Drawn0.refl _ | apply Drawn0.step)⟩
   ·rw [if_neg c2] at H
    have c2b0 : decide ((wrap64 (2 * x3_1)) < a0) = false := decide_eq_false c2
    clear c2
    obtain rfl := Option.some.inj H
    go_wp2
    go_ret
    exact ⟨by first | rfl | (simp; done) | (simp [*]; done), by repeat (first | exact Drawn0.refl _ | apply Drawn0.step)⟩
def letterlockref10_over.f (k : Nat) (a0 : ByteArray) (a1 : ByteArray) : Option (ByteArray × Int) := (letterlockref3_OfPair.f k a0 a1).bind fun bt338 => (if bt338.2 = 0 then ((letterlockref3_OfHash.f k bt338.1).bind fun bt340 => (some (bt340.1, bt340.2))) else (some ((⟨#[]⟩ : ByteArray), bt338.2)))
set_option maxHeartbeats 8000000 in
set_option maxRecDepth 100000 in
theorem letterlockref10_over.calls (k : Nat) (a0 : ByteArray) (a1 : ByteArray) (r1 : ByteArray) (r2 : Int) (w : World) (h : letterlockref10_over.f k a0 a1 = some (r1, r2)) :
  Calls Tryz.prog 95 #[.string a0, .string a1] w fun e w' => e = .returned (.tuple #[.string r1, .int .i64 r2]) ∧ Below w.heap.size w w' := by
 have HB := Aside0.mk (Below.refl w.heap.size w)
 unfold letterlockref10_over.f at h
 have H := h
 clear h
 replace H := Option.bind_eq_some_iff.mp H
 obtain ⟨⟨t338, t339⟩, A30, H⟩ := H
 try dsimp only at H
 have A3 := Aside0.mk A30
 clear A30
 by_cases c4 : t339 = 0
 ·rw [if_pos c4] at H
  have c4b0 : (t339 == 0) = true := beq_iff_eq.mpr c4
  have c4b1 : (t339 != 0) = false := bne_eq_false_iff_eq.mpr c4
  clear c4
  replace H := Option.bind_eq_some_iff.mp H
  obtain ⟨⟨t340, t341⟩, A50, H⟩ := H
  try dsimp only at H
  have A5 := Aside0.mk A50
  clear A50
  simp only [Option.some.injEq, Prod.mk.injEq] at H
  obtain ⟨rfl, rfl⟩ := H
  go_enter Tryz.func95, Tryz.ntmps95
  go_wp2_with (first | ((with_reducible refine gate_callee (f := 66) rfl ?_); refine gL (some 11) Tryz.func66 #[.string a0, .string a1] rfl ?_; (with_reducible refine (letterlockref3_OfPair.calls k a0 a1 t338 t339 _ A3.out).mono ?_); rintro e w6 ⟨rfl, hb⟩; refine ⟨_, rfl, ?_⟩; have n0_ := Aside0.mk (below_step bl_ hb); clear HB; have HB := n0_; clear n0_; (try clear hb)) | ((with_reducible refine gate_callee (f := 81) rfl ?_); refine gL (some 18) Tryz.func81 #[.string t338] rfl ?_; (with_reducible refine (letterlockref3_OfHash.calls k t338 t340 t341 _ A5.out).mono ?_); rintro e w7 ⟨rfl, hb⟩; refine ⟨_, rfl, ?_⟩; have n0_ := Aside0.mk (below_step bl_ hb); clear HB; have HB := n0_; clear n0_; (try clear hb)))
  go_ret2
  exact ⟨eq_, bl_⟩
 ·rw [if_neg c4] at H
  have c4b0 : (t339 == 0) = false := beq_eq_false_iff_ne.mpr c4
  have c4b1 : (t339 != 0) = true := bne_iff_ne.mpr c4
  simp only [Option.some.injEq, Prod.mk.injEq] at H
  obtain ⟨rfl, rfl⟩ := H
  go_enter Tryz.func95, Tryz.ntmps95
  go_wp2_with (first | ((with_reducible refine gate_callee (f := 66) rfl ?_); refine gL (some 11) Tryz.func66 #[.string a0, .string a1] rfl ?_; (with_reducible refine (letterlockref3_OfPair.calls k a0 a1 t338 t339 _ A3.out).mono ?_); rintro e w8 ⟨rfl, hb⟩; refine ⟨_, rfl, ?_⟩; have n0_ := Aside0.mk (below_step bl_ hb); clear HB; have HB := n0_; clear n0_; (try clear hb)))
  go_ret2
  exact ⟨eq_, bl_⟩
def letterlockref10_tree.f : Nat → List ByteArray → Option (ByteArray × Int)
 | 0, _ => none
 | k + 1, l0 => if (l0.length : Int) = 1 then (if 0 < (l0.length : Int) then ((letterlockref3_OfHash.f k (rdOf ByteArray.empty l0 0)).bind fun bt343 => (some (bt343.1, bt343.2))) else (none)) else ((letterlockref10_first.f k (l0.length : Int)).bind fun t345 => (if 0 ≤ t345 then (if t345 ≤ (l0.length : Int) then ((letterlockref10_tree.f k (l0.take (t345 : Int).toNat)).bind fun bt347 => (if bt347.2 = 0 then ((letterlockref10_tree.f k (l0.drop (t345 : Int).toNat)).bind fun bt350 => (if bt350.2 = 0 then ((letterlockref10_over.f k bt347.1 bt350.1).bind fun bt352 => (some (bt352.1, bt352.2))) else (some ((⟨#[]⟩ : ByteArray), bt350.2)))) else (some ((⟨#[]⟩ : ByteArray), bt347.2)))) else (none)) else (none)))
set_option maxHeartbeats 8000000 in
set_option maxRecDepth 100000 in
theorem letterlockref10_tree.calls (k : Nat) : ∀ (A0 : Option Addr) (c0 : Nat) (l0 : List ByteArray) (r1 : ByteArray) (r2 : Int) (w : World) (hr0 : Kd.C Kd.string w A0 l0.length l0) (hc0 : l0.length ≤ c0) (h : letterlockref10_tree.f k l0 = some (r1, r2)),
  Calls Tryz.prog 65 #[.slice A0 l0.length c0] w fun e w' => e = .returned (.tuple #[.string r1, .int .i64 r2]) ∧ Below w.heap.size w w' := by
 induction k using Nat.strongRecOn with
 | _ k ih =>
 intro A0 c0 l0 r1 r2 w hr0 hc0 h
 cases k with
 | zero => exact absurd h (by simp [letterlockref10_tree.f])
 | succ k =>
 simp only [letterlockref10_tree.f] at h
 have HR0 := Aside0.mk hr0
 have HC0 := Aside0.mk hc0
 clear hr0 hc0
 have HB := Aside0.mk (Below.refl w.heap.size w)
 have H : (if (l0.length : Int) = 1 then (if 0 < (l0.length : Int) then ((letterlockref3_OfHash.f k (rdOf ByteArray.empty l0 0)).bind fun bt343 => (some (bt343.1, bt343.2))) else (none)) else ((letterlockref10_first.f k (l0.length : Int)).bind fun t345 => (if 0 ≤ t345 then (if t345 ≤ (l0.length : Int) then ((letterlockref10_tree.f k (l0.take (t345 : Int).toNat)).bind fun bt347 => (if bt347.2 = 0 then ((letterlockref10_tree.f k (l0.drop (t345 : Int).toNat)).bind fun bt350 => (if bt350.2 = 0 then ((letterlockref10_over.f k bt347.1 bt350.1).bind fun bt352 => (some (bt352.1, bt352.2))) else (some ((⟨#[]⟩ : ByteArray), bt350.2)))) else (some ((⟨#[]⟩ : ByteArray), bt347.2)))) else (none)) else (none)))) = some (r1, r2) := h
 clear h
 by_cases c2 : (l0.length : Int) = 1
 ·rw [if_pos c2] at H
  have c2b0 : ((l0.length : Int) == 1) = true := beq_iff_eq.mpr c2
  have c2b1 : ((l0.length : Int) != 1) = false := bne_eq_false_iff_eq.mpr c2
  clear c2
  by_cases c3 : 0 < (l0.length : Int)
  ·rw [if_pos c3] at H
   have c3b0 : decide (0 < (l0.length : Int)) = true := decide_eq_true c3
   have c3b1 : decide (0 < l0.length) = true := decide_eq_true (by omega)
   clear c3
   replace H := Option.bind_eq_some_iff.mp H
   obtain ⟨⟨t343, t344⟩, A40, H⟩ := H
   try dsimp only at H
   have A4 := Aside0.mk A40
   clear A40
   simp only [Option.some.injEq, Prod.mk.injEq] at H
   obtain ⟨rfl, rfl⟩ := H
   have p342 : 0 ≤ (0 : Int) := (by omega)
   have q342 : 0 < (l0.length : Int) := of_decide_eq_true (by first | (with_reducible assumption) | assumption)
   obtain ⟨ad342, e342, hx342_0⟩ := Kd.at_string HR0.out 0 p342 q342
   cases e342
   have qi342 : (0 < l0.length) = True := eq_true (by omega)
   (try rw [show ((0 : Int)).toNat = 0 from rfl] at hx342_0)
   (try rw [Addr.add_zero'] at hx342_0)
   replace p342 := eq_true p342
   replace q342 := eq_true q342
   go_enter Tryz.func65, Tryz.ntmps65
   go_wp2_with (first | ((with_reducible refine gate_callee (f := 81) rfl ?_); refine gL (some 14) Tryz.func81 #[.string (rdOf ByteArray.empty l0 0)] rfl ?_; (with_reducible refine (letterlockref3_OfHash.calls k (rdOf ByteArray.empty l0 0) t343 t344 _ A4.out).mono ?_); rintro e w5 ⟨rfl, hb⟩; refine ⟨_, rfl, ?_⟩; have n0_ := Aside0.mk (below_step bl_ hb); clear HB; have HB := n0_; clear n0_; (try clear hb)))
   go_ret2
   exact ⟨eq_, bl_⟩
  ·rw [if_neg c3] at H
   exact absurd H (by simp)
 ·rw [if_neg c2] at H
  have c2b0 : ((l0.length : Int) == 1) = false := beq_eq_false_iff_ne.mpr c2
  have c2b1 : ((l0.length : Int) != 1) = true := bne_iff_ne.mpr c2
  replace H := Option.bind_eq_some_iff.mp H
  obtain ⟨t345, A60, H⟩ := H
  try dsimp only at H
  have A6 := Aside0.mk A60
  clear A60
  by_cases c7 : 0 ≤ t345
  ·rw [if_pos c7] at H
   have c7b0 := eq_true c7
   have c7b1 : decide (0 ≤ t345) = true := decide_eq_true c7
   clear c7
   by_cases c8 : t345 ≤ (l0.length : Int)
   ·rw [if_pos c8] at H
    have c8b0 := eq_true c8
    have c8b1 : decide (t345 ≤ (l0.length : Int)) = true := decide_eq_true c8
    clear c8
    replace H := Option.bind_eq_some_iff.mp H
    obtain ⟨⟨t347, t348⟩, A90, H⟩ := H
    try dsimp only at H
    have A9 := Aside0.mk A90
    clear A90
    by_cases c10 : t348 = 0
    ·rw [if_pos c10] at H
     have c10b0 : (t348 == 0) = true := beq_iff_eq.mpr c10
     have c10b1 : (t348 != 0) = false := bne_eq_false_iff_eq.mpr c10
     clear c10
     have c11b0 := eq_true (of_decide_eq_true (by first | (with_reducible assumption) | assumption) : 0 ≤ t345)
     have c12b0 := eq_true (of_decide_eq_true (by first | (with_reducible assumption) | assumption) : t345 ≤ (l0.length : Int))
     replace H := Option.bind_eq_some_iff.mp H
     obtain ⟨⟨t350, t351⟩, A130, H⟩ := H
     try dsimp only at H
     have A13 := Aside0.mk A130
     clear A130
     by_cases c14 : t351 = 0
     ·rw [if_pos c14] at H
      have c14b0 : (t351 == 0) = true := beq_iff_eq.mpr c14
      have c14b1 : (t351 != 0) = false := bne_eq_false_iff_eq.mpr c14
      clear c14
      replace H := Option.bind_eq_some_iff.mp H
      obtain ⟨⟨t352, t353⟩, A150, H⟩ := H
      try dsimp only at H
      have A15 := Aside0.mk A150
      clear A150
      simp only [Option.some.injEq, Prod.mk.injEq] at H
      obtain ⟨rfl, rfl⟩ := H
      go_enter Tryz.func65, Tryz.ntmps65
      go_wp2_with (first | ((with_reducible refine gate_callee (f := 94) rfl ?_); refine gL (some 19) Tryz.func94 #[.int .i64 (l0.length : Int)] rfl ?_; (with_reducible refine (letterlockref10_first.calls k (l0.length : Int) t345 _ A6.out).mono ?_); rintro e w' ⟨rfl, ⟨nd, rfl⟩⟩; refine ⟨_, rfl, ?_⟩; obtain ⟨i016, hi016, _, hsz16, _⟩ := info_parts info9; obtain ⟨hcut16, hA16, hC16⟩ := print_take_of (P := Tryz.prog) Value.string (⟨#[]⟩ : ByteArray) 25 9 .i64 Tryz.underlying25 hi016 hsz16 A0 c0 l0 t345 (of_decide_eq_true (by first | (with_reducible assumption) | assumption)) (of_decide_eq_true (by first | (with_reducible assumption) | assumption)) HC0.out; have HR346 := Aside0.mk (Kd.C_of_reads (h1 := fun _ => rfl) (hA16 _ (Kd.reads_of_C HR0.out))); have HC346 := Aside0.mk hC16; clear hA16 hC16 hi016 hsz16) | ((with_reducible refine gate_callee (f := 65) rfl ?_); refine goesL_ (some 24) rfl rfl Tryz.func65 (by kernel_rfl) rfl #[.slice A0 (l0.take (t345 : Int).toNat).length c0] rfl (by (try simp only [List.map_toArray, List.map_cons, List.map_nil]); first | done | (rw [show (l0.take (t345 : Int).toNat).length = t345.toNat from (by rw [List.length_take]; have h_ : (t345 : Int) ≤ (l0.length : Int) := of_decide_eq_true (by first | (with_reducible assumption) | assumption); omega)] <;> rfl) | rfl | (simp only [List.length_drop, List.length_take]; rfl)) ?_; (with_reducible refine (ih k (by omega) _ _ (l0.take (t345 : Int).toNat) t347 t348 _ ?side1 ?side2 A9.out).mono ?_); (case side1 => repeat (first | exact HR346.out | (with_reducible refine Kd.C_alloc ?_ _) | (with_reducible refine Kd.C_drewN ?_ _) | (with_reducible refine Kd.C_drew ?_))); (case side2 => exact HC346.out); rintro e w17 ⟨rfl, hb⟩; refine ⟨_, rfl, ?_⟩; have n0_ := Aside0.mk (below_step bl_ hb); clear HB; have HB := n0_; clear n0_; (try clear hb); obtain ⟨i018, hi018, _, hsz18, _⟩ := info_parts info9; obtain ⟨A18, hcut18, hA18, hC18⟩ := print_drop_of (P := Tryz.prog) Value.string (⟨#[]⟩ : ByteArray) 25 9 .i64 Tryz.underlying25 hi018 hsz18 A0 c0 l0 t345 (of_decide_eq_true (by first | (with_reducible assumption) | assumption)) (of_decide_eq_true (by first | (with_reducible assumption) | assumption)) HC0.out; have HR349 := Aside0.mk (Kd.C_of_reads (h1 := fun _ => rfl) (hA18 _ (Kd.reads_of_C HR0.out))); have HC349 := Aside0.mk hC18; clear hA18 hC18 hi018 hsz18) | ((with_reducible refine gate_callee (f := 65) rfl ?_); refine goesL_ (some 34) rfl rfl Tryz.func65 (by kernel_rfl) rfl #[.slice A18 (l0.drop (t345 : Int).toNat).length (c0 - t345.toNat)] rfl (by (try simp only [List.map_toArray, List.map_cons, List.map_nil]); first | done | (rw [show (l0.drop (t345 : Int).toNat).length = (l0.length - t345.toNat) from List.length_drop] <;> rfl) | rfl | (simp only [List.length_drop, List.length_take]; rfl)) ?_; (with_reducible refine (ih k (by omega) _ _ (l0.drop (t345 : Int).toNat) t350 t351 _ ?side1 ?side2 A13.out).mono ?_); (case side1 => repeat (first | exact (Kd.C_below HR349.out HB.out) | (with_reducible refine Kd.C_alloc ?_ _) | (with_reducible refine Kd.C_drewN ?_ _) | (with_reducible refine Kd.C_drew ?_))); (case side2 => exact HC349.out); rintro e w19 ⟨rfl, hb⟩; refine ⟨_, rfl, ?_⟩; have n0_ := Aside0.mk (below_step bl_ hb); clear HB; have HB := n0_; clear n0_; (try clear hb)) | ((with_reducible refine gate_callee (f := 95) rfl ?_); refine gL (some 42) Tryz.func95 #[.string t347, .string t350] rfl ?_; (with_reducible refine (letterlockref10_over.calls k t347 t350 t352 t353 _ A15.out).mono ?_); rintro e w20 ⟨rfl, hb⟩; refine ⟨_, rfl, ?_⟩; have n0_ := Aside0.mk (below_step bl_ hb); clear HB; have HB := n0_; clear n0_; (try clear hb)))
      go_ret2
      exact ⟨eq_, bl_⟩
     ·rw [if_neg c14] at H
      have c14b0 : (t351 == 0) = false := beq_eq_false_iff_ne.mpr c14
      have c14b1 : (t351 != 0) = true := bne_iff_ne.mpr c14
      simp only [Option.some.injEq, Prod.mk.injEq] at H
      obtain ⟨rfl, rfl⟩ := H
      go_enter Tryz.func65, Tryz.ntmps65
      go_wp2_with (first | ((with_reducible refine gate_callee (f := 94) rfl ?_); refine gL (some 19) Tryz.func94 #[.int .i64 (l0.length : Int)] rfl ?_; (with_reducible refine (letterlockref10_first.calls k (l0.length : Int) t345 _ A6.out).mono ?_); rintro e w' ⟨rfl, ⟨nd, rfl⟩⟩; refine ⟨_, rfl, ?_⟩; obtain ⟨i021, hi021, _, hsz21, _⟩ := info_parts info9; obtain ⟨hcut21, hA21, hC21⟩ := print_take_of (P := Tryz.prog) Value.string (⟨#[]⟩ : ByteArray) 25 9 .i64 Tryz.underlying25 hi021 hsz21 A0 c0 l0 t345 (of_decide_eq_true (by first | (with_reducible assumption) | assumption)) (of_decide_eq_true (by first | (with_reducible assumption) | assumption)) HC0.out; have HR346 := Aside0.mk (Kd.C_of_reads (h1 := fun _ => rfl) (hA21 _ (Kd.reads_of_C HR0.out))); have HC346 := Aside0.mk hC21; clear hA21 hC21 hi021 hsz21) | ((with_reducible refine gate_callee (f := 65) rfl ?_); refine goesL_ (some 24) rfl rfl Tryz.func65 (by kernel_rfl) rfl #[.slice A0 (l0.take (t345 : Int).toNat).length c0] rfl (by (try simp only [List.map_toArray, List.map_cons, List.map_nil]); first | done | (rw [show (l0.take (t345 : Int).toNat).length = t345.toNat from (by rw [List.length_take]; have h_ : (t345 : Int) ≤ (l0.length : Int) := of_decide_eq_true (by first | (with_reducible assumption) | assumption); omega)] <;> rfl) | rfl | (simp only [List.length_drop, List.length_take]; rfl)) ?_; (with_reducible refine (ih k (by omega) _ _ (l0.take (t345 : Int).toNat) t347 t348 _ ?side1 ?side2 A9.out).mono ?_); (case side1 => repeat (first | exact HR346.out | (with_reducible refine Kd.C_alloc ?_ _) | (with_reducible refine Kd.C_drewN ?_ _) | (with_reducible refine Kd.C_drew ?_))); (case side2 => exact HC346.out); rintro e w22 ⟨rfl, hb⟩; refine ⟨_, rfl, ?_⟩; have n0_ := Aside0.mk (below_step bl_ hb); clear HB; have HB := n0_; clear n0_; (try clear hb); obtain ⟨i023, hi023, _, hsz23, _⟩ := info_parts info9; obtain ⟨A23, hcut23, hA23, hC23⟩ := print_drop_of (P := Tryz.prog) Value.string (⟨#[]⟩ : ByteArray) 25 9 .i64 Tryz.underlying25 hi023 hsz23 A0 c0 l0 t345 (of_decide_eq_true (by first | (with_reducible assumption) | assumption)) (of_decide_eq_true (by first | (with_reducible assumption) | assumption)) HC0.out; have HR349 := Aside0.mk (Kd.C_of_reads (h1 := fun _ => rfl) (hA23 _ (Kd.reads_of_C HR0.out))); have HC349 := Aside0.mk hC23; clear hA23 hC23 hi023 hsz23) | ((with_reducible refine gate_callee (f := 65) rfl ?_); refine goesL_ (some 34) rfl rfl Tryz.func65 (by kernel_rfl) rfl #[.slice A23 (l0.drop (t345 : Int).toNat).length (c0 - t345.toNat)] rfl (by (try simp only [List.map_toArray, List.map_cons, List.map_nil]); first | done | (rw [show (l0.drop (t345 : Int).toNat).length = (l0.length - t345.toNat) from List.length_drop] <;> rfl) | rfl | (simp only [List.length_drop, List.length_take]; rfl)) ?_; (with_reducible refine (ih k (by omega) _ _ (l0.drop (t345 : Int).toNat) t350 t351 _ ?side1 ?side2 A13.out).mono ?_); (case side1 => repeat (first | exact (Kd.C_below HR349.out HB.out) | (with_reducible refine Kd.C_alloc ?_ _) | (with_reducible refine Kd.C_drewN ?_ _) | (with_reducible refine Kd.C_drew ?_))); (case side2 => exact HC349.out); rintro e w24 ⟨rfl, hb⟩; refine ⟨_, rfl, ?_⟩; have n0_ := Aside0.mk (below_step bl_ hb); clear HB; have HB := n0_; clear n0_; (try clear hb)))
      go_ret2
      exact ⟨eq_, bl_⟩
    ·rw [if_neg c10] at H
     have c10b0 : (t348 == 0) = false := beq_eq_false_iff_ne.mpr c10
     have c10b1 : (t348 != 0) = true := bne_iff_ne.mpr c10
     simp only [Option.some.injEq, Prod.mk.injEq] at H
     obtain ⟨rfl, rfl⟩ := H
     go_enter Tryz.func65, Tryz.ntmps65
     go_wp2_with (first | ((with_reducible refine gate_callee (f := 94) rfl ?_); refine gL (some 19) Tryz.func94 #[.int .i64 (l0.length : Int)] rfl ?_; (with_reducible refine (letterlockref10_first.calls k (l0.length : Int) t345 _ A6.out).mono ?_); rintro e w' ⟨rfl, ⟨nd, rfl⟩⟩; refine ⟨_, rfl, ?_⟩; obtain ⟨i025, hi025, _, hsz25, _⟩ := info_parts info9; obtain ⟨hcut25, hA25, hC25⟩ := print_take_of (P := Tryz.prog) Value.string (⟨#[]⟩ : ByteArray) 25 9 .i64 Tryz.underlying25 hi025 hsz25 A0 c0 l0 t345 (of_decide_eq_true (by first | (with_reducible assumption) | assumption)) (of_decide_eq_true (by first | (with_reducible assumption) | assumption)) HC0.out; have HR346 := Aside0.mk (Kd.C_of_reads (h1 := fun _ => rfl) (hA25 _ (Kd.reads_of_C HR0.out))); have HC346 := Aside0.mk hC25; clear hA25 hC25 hi025 hsz25) | ((with_reducible refine gate_callee (f := 65) rfl ?_); refine goesL_ (some 24) rfl rfl Tryz.func65 (by kernel_rfl) rfl #[.slice A0 (l0.take (t345 : Int).toNat).length c0] rfl (by (try simp only [List.map_toArray, List.map_cons, List.map_nil]); first | done | (rw [show (l0.take (t345 : Int).toNat).length = t345.toNat from (by rw [List.length_take]; have h_ : (t345 : Int) ≤ (l0.length : Int) := of_decide_eq_true (by first | (with_reducible assumption) | assumption); omega)] <;> rfl) | rfl | (simp only [List.length_drop, List.length_take]; rfl)) ?_; (with_reducible refine (ih k (by omega) _ _ (l0.take (t345 : Int).toNat) t347 t348 _ ?side1 ?side2 A9.out).mono ?_); (case side1 => repeat (first | exact HR346.out | (with_reducible refine Kd.C_alloc ?_ _) | (with_reducible refine Kd.C_drewN ?_ _) | (with_reducible refine Kd.C_drew ?_))); (case side2 => exact HC346.out); rintro e w26 ⟨rfl, hb⟩; refine ⟨_, rfl, ?_⟩; have n0_ := Aside0.mk (below_step bl_ hb); clear HB; have HB := n0_; clear n0_; (try clear hb)))
     go_ret2
     exact ⟨eq_, bl_⟩
   ·rw [if_neg c8] at H
    exact absurd H (by simp)
  ·rw [if_neg c7] at H
   exact absurd H (by simp)
mutual
def letterlockref10_Root.j0 : Nat → List ByteArray → Bool → Option (ByteArray × Int)
 | 0, _, _ => none
 | k + 1, x0, x12 => if x12 = true then (some ((⟨#[]⟩ : ByteArray), 1)) else (letterlockref10_Root.l0 k x0 0)
def letterlockref10_Root.l0 : Nat → List ByteArray → Int → Option (ByteArray × Int)
 | 0, _, _ => none
 | k + 1, x0, x4 => if x4 < (x0.length : Int) then (if 0 ≤ x4 then ((letterlockref10_leaf.f k (rdOf ByteArray.empty x0 x4)).bind fun t355 => (if t355 = true then (letterlockref10_Root.l0 k x0 (wrap64 (x4 + 1))) else (some ((⟨#[]⟩ : ByteArray), 1)))) else (none)) else ((letterlockref10_tree.f k x0).bind fun bt356 => (some (bt356.1, bt356.2)))
end
def letterlockref10_Root.f (k : Nat) (l0 : List ByteArray) : Option (ByteArray × Int) := if (l0.length : Int) < 1 then (letterlockref10_Root.j0 k l0 true) else (letterlockref10_Root.j0 k l0 (decide ((l0.length : Int) > 8)))
set_option maxHeartbeats 8000000 in
set_option maxRecDepth 100000 in
theorem letterlockref10_Root.calls (k : Nat) (A0 : Option Addr) (c0 : Nat) (l0 : List ByteArray) (r1 : ByteArray) (r2 : Int) (w : World) (hr0 : Kd.C Kd.string w A0 l0.length l0) (hc0 : l0.length ≤ c0) (h : letterlockref10_Root.f k l0 = some (r1, r2)) :
  Calls Tryz.prog 30 #[.slice A0 l0.length c0] w fun e w' => e = .returned (.tuple #[.string r1, .int .i64 r2]) ∧ Below w.heap.size w w' := by
 have HR0 := Aside0.mk hr0
 have HC0 := Aside0.mk hc0
 clear hr0 hc0
 have HB := Aside0.mk (Below.refl w.heap.size w)
 unfold letterlockref10_Root.f at h
 have H := h
 clear h
 have HC2 := Aside0.mk H
 clear H
 go_enter Tryz.func30, Tryz.ntmps30
 go_upto_region 1 with (fail)
 go_cut [12] (fun v12 wc => ∃ (kq : Nat) (x12_1 : Bool), v12 = .bool x12_1 ∧ Aside0 (letterlockref10_Root.j0 kq l0 x12_1 = some (r1, r2)) ∧ Aside0 (kq ≤ k) ∧ Aside0 (Below w.heap.size w wc))
 case first =>
  have H := HC2.out
  clear HC2
  by_cases c3 : (l0.length : Int) < 1
  ·rw [if_pos c3] at H
   have c3b0 : decide ((l0.length : Int) < 1) = true := decide_eq_true c3
   have c3b1 : decide (l0.length < 1) = true := decide_eq_true (by omega)
   clear c3
   (first | rw [c3b0] | (simp only [i64_w, i32_w]; rw [c3b0]) | rw [c3b1] | skip)
   have H' := Aside0.mk H
   clear H
   go_wp2
   go_meet
   case rel => exact ⟨_, (true), es_, H', ⟨by first | omega | exact Nat.le_refl _⟩, ⟨bl_⟩⟩
  ·rw [if_neg c3] at H
   have c3b0 : decide ((l0.length : Int) < 1) = false := decide_eq_false c3
   have c3b1 : decide (l0.length < 1) = false := decide_eq_false (by omega)
   clear c3
   (first | rw [c3b0] | (simp only [i64_w, i32_w]; rw [c3b0]) | rw [c3b1] | skip)
   have H' := Aside0.mk H
   clear H
   go_wp2
   go_meet
   case rel => exact ⟨_, (decide ((l0.length : Int) > 8)), es_, H', ⟨by first | omega | exact Nat.le_refl _⟩, ⟨bl_⟩⟩
 case rest =>
  clear HC2
  try clear p2
  try clear c3
  try clear c3b0
  try clear c3b1
  obtain ⟨kq, x12_1, rfl, HA, HJ1, HB⟩ := hcut
  cases kq with
  | zero => exact absurd HA.out (by simp [letterlockref10_Root.j0])
  | succ kj1 =>
   have H := HA.out
   clear HA
   simp only [letterlockref10_Root.j0] at H
   by_cases c4 : x12_1 = true
   ·subst c4
    rw [if_pos rfl] at H
    simp only [Option.some.injEq, Prod.mk.injEq] at H
    obtain ⟨rfl, rfl⟩ := H
    go_wp2
    go_ret2
    exact ⟨eq_, bl_⟩
   ·replace c4 := Bool.eq_false_iff.mpr c4
    subst c4
    rw [if_neg (show ¬ (false = true) by decide)] at H
    have H' := Aside0.mk H
    clear H
    go_wp2
    go_loopg [4] kj1 (fun kq v4 w' => ∃ (x4_2 : Int), v4 = .int .i64 x4_2 ∧ Aside0 (letterlockref10_Root.l0 kq l0 x4_2 = some (r1, r2)) ∧ Aside0 (kq ≤ kj1) ∧ Aside0 (Below w.heap.size w w'))
    case atStart => exact ⟨(0), es_, H', ⟨Nat.le_refl _⟩, ⟨bl_⟩⟩
    case round =>
     clear H'
     try clear p2
     try clear c3
     try clear c3b0
     try clear c3b1
     try clear c4
     try clear p2
     obtain ⟨x4_2, rfl, HA, HK2, HB⟩ := hrel
     cases gk with
     | zero => exact absurd HA.out (by simp [letterlockref10_Root.l0])
     | succ k2 =>
      have H := HA.out
      clear HA
      simp only [letterlockref10_Root.l0] at H
      by_cases c5 : x4_2 < (l0.length : Int)
      ·rw [if_pos c5] at H
       have c5b0 : decide (x4_2 < (l0.length : Int)) = true := decide_eq_true c5
       clear c5
       by_cases c6 : 0 ≤ x4_2
       ·rw [if_pos c6] at H
        have c6b0 : decide (0 ≤ x4_2) = true := decide_eq_true c6
        clear c6
        replace H := Option.bind_eq_some_iff.mp H
        obtain ⟨t355, A70, H⟩ := H
        try dsimp only at H
        have A7 := Aside0.mk A70
        clear A70
        by_cases c8 : t355 = true
        ·subst c8
         rw [if_pos rfl] at H
         have H' := Aside0.mk H
         clear H
         have p354 : 0 ≤ (x4_2 : Int) := of_decide_eq_true (by first | (with_reducible assumption) | assumption)
         have q354 : x4_2 < (l0.length : Int) := of_decide_eq_true (by first | (with_reducible assumption) | assumption)
         obtain ⟨ad354, e354, hx354_0⟩ := Kd.at_string HR0.out x4_2 p354 q354
         cases e354
         replace hx354_0 := (HB.out.cell (World.block_lt_of_cell? w _ hx354_0)).trans hx354_0
         replace p354 := eq_true p354
         replace q354 := eq_true q354
         go_wp2_with (first | ((with_reducible refine gate_callee (f := 64) rfl ?_); refine gL (some 23) Tryz.func64 #[.string (rdOf ByteArray.empty l0 x4_2)] rfl ?_; (with_reducible refine (letterlockref10_leaf.calls k2 (rdOf ByteArray.empty l0 x4_2) true _ A7.out).mono ?_); rintro e w9 ⟨rfl, hb⟩; refine ⟨_, rfl, ?_⟩; have n0_ := Aside0.mk (below_step bl_ hb); clear HB; have HB := n0_; clear n0_; (try clear hb)))
         go_roundg k2
         case measure => have := HJ1.out; have := HK2.out; omega
         case rel => exact ⟨(wrap64 (x4_2 + 1)), es_, H', ⟨by have := HJ1.out; have := HK2.out; omega⟩, ⟨bl_⟩⟩
        ·replace c8 := Bool.eq_false_iff.mpr c8
         subst c8
         rw [if_neg (show ¬ (false = true) by decide)] at H
         simp only [Option.some.injEq, Prod.mk.injEq] at H
         obtain ⟨rfl, rfl⟩ := H
         have p354 : 0 ≤ (x4_2 : Int) := of_decide_eq_true (by first | (with_reducible assumption) | assumption)
         have q354 : x4_2 < (l0.length : Int) := of_decide_eq_true (by first | (with_reducible assumption) | assumption)
         obtain ⟨ad354, e354, hx354_0⟩ := Kd.at_string HR0.out x4_2 p354 q354
         cases e354
         replace hx354_0 := (HB.out.cell (World.block_lt_of_cell? w _ hx354_0)).trans hx354_0
         replace p354 := eq_true p354
         replace q354 := eq_true q354
         go_wp2_with (first | ((with_reducible refine gate_callee (f := 64) rfl ?_); refine gL (some 23) Tryz.func64 #[.string (rdOf ByteArray.empty l0 x4_2)] rfl ?_; (with_reducible refine (letterlockref10_leaf.calls k2 (rdOf ByteArray.empty l0 x4_2) false _ A7.out).mono ?_); rintro e w10 ⟨rfl, hb⟩; refine ⟨_, rfl, ?_⟩; have n0_ := Aside0.mk (below_step bl_ hb); clear HB; have HB := n0_; clear n0_; (try clear hb)))
         go_ret2
         exact ⟨eq_, bl_⟩
       ·rw [if_neg c6] at H
        exact absurd H (by simp)
      ·rw [if_neg c5] at H
       have c5b0 : decide (x4_2 < (l0.length : Int)) = false := decide_eq_false c5
       clear c5
       replace H := Option.bind_eq_some_iff.mp H
       obtain ⟨⟨t356, t357⟩, A110, H⟩ := H
       try dsimp only at H
       have A11 := Aside0.mk A110
       clear A110
       simp only [Option.some.injEq, Prod.mk.injEq] at H
       obtain ⟨rfl, rfl⟩ := H
       go_wp2_with (first | ((with_reducible refine gate_callee (f := 65) rfl ?_); refine gL (some 26) Tryz.func65 #[.slice A0 l0.length c0] rfl ?_; (with_reducible refine (letterlockref10_tree.calls k2 _ _ l0 t356 t357 _ ?side1 ?side2 A11.out).mono ?_); (case side1 => repeat (first | exact (Kd.C_below HR0.out HB.out) | (with_reducible refine Kd.C_alloc ?_ _) | (with_reducible refine Kd.C_drewN ?_ _) | (with_reducible refine Kd.C_drew ?_))); (case side2 => exact HC0.out); rintro e w12 ⟨rfl, hb⟩; refine ⟨_, rfl, ?_⟩; have n0_ := Aside0.mk (below_step bl_ hb); clear HB; have HB := n0_; clear n0_; (try clear hb)))
       go_ret2
       exact ⟨eq_, bl_⟩
def letterlockref10_up.f : Nat → Int → Int → ByteArray → List ByteArray → Option (ByteArray)
 | 0, _, _, _, _ => none
 | k + 1, a0, a1, a2, l3 => if a0 = 1 then (if (l3.length : Int) > 0 then (some (⟨#[]⟩ : ByteArray)) else ((letterlockref3_OfHash.f k a2).bind fun bt455 => (some bt455.1))) else (if (l3.length : Int) = 0 then (some (⟨#[]⟩ : ByteArray)) else ((letterlockref10_first.f k a0).bind fun t457 => (if a1 < t457 then (if 0 ≤ (wrap64 ((l3.length : Int) - 1)) then (if (wrap64 ((l3.length : Int) - 1)) ≤ (l3.length : Int) then ((letterlockref10_up.f k t457 a1 a2 (l3.take ((wrap64 ((l3.length : Int) - 1)) : Int).toNat)).bind fun t459 => (if (wrap64 ((l3.length : Int) - 1)) < (l3.length : Int) then ((letterlockref10_over.f k t459 (rdOf ByteArray.empty l3 (wrap64 ((l3.length : Int) - 1)))).bind fun bt461 => (some bt461.1)) else (none))) else (none)) else (none)) else (if 0 ≤ (wrap64 ((l3.length : Int) - 1)) then (if (wrap64 ((l3.length : Int) - 1)) < (l3.length : Int) then (if (wrap64 ((l3.length : Int) - 1)) ≤ (l3.length : Int) then ((letterlockref10_up.f k (wrap64 (a0 - t457)) (wrap64 (a1 - t457)) a2 (l3.take ((wrap64 ((l3.length : Int) - 1)) : Int).toNat)).bind fun t465 => ((letterlockref10_over.f k (rdOf ByteArray.empty l3 (wrap64 ((l3.length : Int) - 1))) t465).bind fun bt466 => (some bt466.1))) else (none)) else (none)) else (none)))))
set_option maxHeartbeats 8000000 in
set_option maxRecDepth 100000 in
theorem letterlockref10_up.calls (k : Nat) : ∀ (a0 : Int) (a1 : Int) (a2 : ByteArray) (A3 : Option Addr) (c3 : Nat) (l3 : List ByteArray) (r : ByteArray) (w : World) (hr3 : Kd.C Kd.string w A3 l3.length l3) (hc3 : l3.length ≤ c3) (h : letterlockref10_up.f k a0 a1 a2 l3 = some r),
  Calls Tryz.prog 80 #[.int .i64 a0, .int .i64 a1, .string a2, .slice A3 l3.length c3] w fun e w' => e = .returned (.string r) ∧ Below w.heap.size w w' := by
 induction k using Nat.strongRecOn with
 | _ k ih =>
 intro a0 a1 a2 A3 c3 l3 r w hr3 hc3 h
 cases k with
 | zero => exact absurd h (by simp [letterlockref10_up.f])
 | succ k =>
 simp only [letterlockref10_up.f] at h
 have HR3 := Aside0.mk hr3
 have HC3 := Aside0.mk hc3
 clear hr3 hc3
 have HB := Aside0.mk (Below.refl w.heap.size w)
 have H : (if a0 = 1 then (if (l3.length : Int) > 0 then (some (⟨#[]⟩ : ByteArray)) else ((letterlockref3_OfHash.f k a2).bind fun bt455 => (some bt455.1))) else (if (l3.length : Int) = 0 then (some (⟨#[]⟩ : ByteArray)) else ((letterlockref10_first.f k a0).bind fun t457 => (if a1 < t457 then (if 0 ≤ (wrap64 ((l3.length : Int) - 1)) then (if (wrap64 ((l3.length : Int) - 1)) ≤ (l3.length : Int) then ((letterlockref10_up.f k t457 a1 a2 (l3.take ((wrap64 ((l3.length : Int) - 1)) : Int).toNat)).bind fun t459 => (if (wrap64 ((l3.length : Int) - 1)) < (l3.length : Int) then ((letterlockref10_over.f k t459 (rdOf ByteArray.empty l3 (wrap64 ((l3.length : Int) - 1)))).bind fun bt461 => (some bt461.1)) else (none))) else (none)) else (none)) else (if 0 ≤ (wrap64 ((l3.length : Int) - 1)) then (if (wrap64 ((l3.length : Int) - 1)) < (l3.length : Int) then (if (wrap64 ((l3.length : Int) - 1)) ≤ (l3.length : Int) then ((letterlockref10_up.f k (wrap64 (a0 - t457)) (wrap64 (a1 - t457)) a2 (l3.take ((wrap64 ((l3.length : Int) - 1)) : Int).toNat)).bind fun t465 => ((letterlockref10_over.f k (rdOf ByteArray.empty l3 (wrap64 ((l3.length : Int) - 1))) t465).bind fun bt466 => (some bt466.1))) else (none)) else (none)) else (none)))))) = some r := h
 clear h
 by_cases c5 : a0 = 1
 ·rw [if_pos c5] at H
  have c5b0 : (a0 == 1) = true := beq_iff_eq.mpr c5
  have c5b1 : (a0 != 1) = false := bne_eq_false_iff_eq.mpr c5
  clear c5
  by_cases c6 : (l3.length : Int) > 0
  ·rw [if_pos c6] at H
   have c6b0 : decide (0 < (l3.length : Int)) = true := decide_eq_true c6
   have c6b1 : decide (0 < l3.length) = true := decide_eq_true (by omega)
   clear c6
   obtain rfl := Option.some.inj H
   go_enter Tryz.func80, Tryz.ntmps80
   go_wp2
   go_ret
   exact ⟨eq_, bl_⟩
  ·rw [if_neg c6] at H
   have c6b0 : decide (0 < (l3.length : Int)) = false := decide_eq_false c6
   have c6b1 : decide (0 < l3.length) = false := decide_eq_false (by omega)
   clear c6
   replace H := Option.bind_eq_some_iff.mp H
   obtain ⟨⟨t455, t456⟩, A70, H⟩ := H
   try dsimp only at H
   have A7 := Aside0.mk A70
   clear A70
   obtain rfl := Option.some.inj H
   go_enter Tryz.func80, Tryz.ntmps80
   go_wp2_with (first | ((with_reducible refine gate_callee (f := 81) rfl ?_); refine gL (some 24) Tryz.func81 #[.string a2] rfl ?_; (with_reducible refine (letterlockref3_OfHash.calls k a2 t455 t456 _ A7.out).mono ?_); rintro e w8 ⟨rfl, hb⟩; refine ⟨_, rfl, ?_⟩; have n0_ := Aside0.mk (below_step bl_ hb); clear HB; have HB := n0_; clear n0_; (try clear hb)))
   go_ret
   exact ⟨eq_, bl_⟩
 ·rw [if_neg c5] at H
  have c5b0 : (a0 == 1) = false := beq_eq_false_iff_ne.mpr c5
  have c5b1 : (a0 != 1) = true := bne_iff_ne.mpr c5
  by_cases c9 : (l3.length : Int) = 0
  ·rw [if_pos c9] at H
   have c9b0 : ((l3.length : Int) == 0) = true := beq_iff_eq.mpr c9
   have c9b1 : ((l3.length : Int) != 0) = false := bne_eq_false_iff_eq.mpr c9
   clear c9
   obtain rfl := Option.some.inj H
   go_enter Tryz.func80, Tryz.ntmps80
   go_wp2
   go_ret
   exact ⟨eq_, bl_⟩
  ·rw [if_neg c9] at H
   have c9b0 : ((l3.length : Int) == 0) = false := beq_eq_false_iff_ne.mpr c9
   have c9b1 : ((l3.length : Int) != 0) = true := bne_iff_ne.mpr c9
   have c9b2 : ¬ (l3 = []) := fun h_ => c9 (by rw [h_]; rfl)
   replace H := Option.bind_eq_some_iff.mp H
   obtain ⟨t457, A100, H⟩ := H
   try dsimp only at H
   have A10 := Aside0.mk A100
   clear A100
   by_cases c11 : a1 < t457
   ·rw [if_pos c11] at H
    have c11b0 : decide (a1 < t457) = true := decide_eq_true c11
    clear c11
    obtain ⟨ji12, hji12⟩ : ∃ j_ : Int, (wrap64 ((l3.length : Int) - 1)) = j_ := ⟨_, rfl⟩
    replace H : (if 0 ≤ (ji12) then (if (ji12) ≤ (l3.length : Int) then ((letterlockref10_up.f k t457 a1 a2 (l3.take ((ji12) : Int).toNat)).bind fun t459 => (if (ji12) < (l3.length : Int) then ((letterlockref10_over.f k t459 (rdOf ByteArray.empty l3 (ji12))).bind fun bt461 => (some bt461.1)) else (none))) else (none)) else (none)) = some r := by first | (rw [hji12] at H; exact H) | (simp only [hji12] at H ⊢; exact H)
    (try rw [hji12] at A10)
    have hji12w : (IntKind.i64.wrap ((l3.length : Int) - 1)) = ji12 := (i64_w _).trans hji12
    by_cases c13 : 0 ≤ (ji12)
    ·rw [if_pos c13] at H
     have c13b0 := eq_true c13
     have c13b1 : decide (0 ≤ (ji12)) = true := decide_eq_true c13
     clear c13
     by_cases c14 : (ji12) ≤ (l3.length : Int)
     ·rw [if_pos c14] at H
      have c14b0 := eq_true c14
      have c14b1 : decide ((ji12) ≤ (l3.length : Int)) = true := decide_eq_true c14
      clear c14
      replace H := Option.bind_eq_some_iff.mp H
      obtain ⟨t459, A150, H⟩ := H
      try dsimp only at H
      have A15 := Aside0.mk A150
      clear A150
      by_cases c16 : (ji12) < (l3.length : Int)
      ·rw [if_pos c16] at H
       have c16b0 : decide ((ji12) < (l3.length : Int)) = true := decide_eq_true c16
       clear c16
       replace H := Option.bind_eq_some_iff.mp H
       obtain ⟨⟨t461, t462⟩, A170, H⟩ := H
       try dsimp only at H
       have A17 := Aside0.mk A170
       clear A170
       obtain rfl := Option.some.inj H
       go_enter Tryz.func80, Tryz.ntmps80
       go_wp2_with (first | ((with_reducible refine gate_callee (f := 94) rfl ?_); refine gL (some 35) Tryz.func94 #[.int .i64 a0] rfl ?_; (with_reducible refine (letterlockref10_first.calls k a0 t457 _ A10.out).mono ?_); rintro e w' ⟨rfl, ⟨nd, rfl⟩⟩; refine ⟨_, rfl, ?_⟩; obtain ⟨i018, hi018, _, hsz18, _⟩ := info_parts info9; obtain ⟨hcut18, hA18, hC18⟩ := print_take_of (P := Tryz.prog) Value.string (⟨#[]⟩ : ByteArray) 25 9 .i64 Tryz.underlying25 hi018 hsz18 A3 c3 l3 (ji12) (of_decide_eq_true (by first | (with_reducible assumption) | assumption)) (of_decide_eq_true (by first | (with_reducible assumption) | assumption)) HC3.out; have HR458 := Aside0.mk (Kd.C_of_reads (h1 := fun _ => rfl) (hA18 _ (Kd.reads_of_C HR3.out))); have HC458 := Aside0.mk hC18; clear hA18 hC18 hi018 hsz18) | ((with_reducible refine gate_callee (f := 80) rfl ?_); refine goesL_ (some 45) rfl rfl Tryz.func80 (by kernel_rfl) rfl #[.int .i64 t457, .int .i64 a1, .string a2, .slice A3 (l3.take ((ji12) : Int).toNat).length c3] rfl (by (try simp only [List.map_toArray, List.map_cons, List.map_nil]); first | done | (rw [show (l3.take ((ji12) : Int).toNat).length = (ji12).toNat from (by rw [List.length_take]; have h_ : ((ji12) : Int) ≤ (l3.length : Int) := of_decide_eq_true (by first | (with_reducible assumption) | assumption); omega)] <;> rfl) | (simp only [hji12]; rfl) | rfl | (simp only [List.length_drop, List.length_take]; rfl)) ?_; (with_reducible refine (ih k (by omega) t457 a1 a2 _ _ (l3.take ((ji12) : Int).toNat) t459 _ ?side1 ?side2 A15.out).mono ?_); (case side1 => repeat (first | exact HR458.out | (with_reducible refine Kd.C_alloc ?_ _) | (with_reducible refine Kd.C_drewN ?_ _) | (with_reducible refine Kd.C_drew ?_))); (case side2 => exact HC458.out); rintro e w19 ⟨rfl, hb⟩; refine ⟨_, rfl, ?_⟩; have n0_ := Aside0.mk (below_step bl_ hb); clear HB; have HB := n0_; clear n0_; (try clear hb); have p460 : 0 ≤ ((ji12) : Int) := of_decide_eq_true (by first | (with_reducible assumption) | assumption); have q460 : (ji12) < (l3.length : Int) := of_decide_eq_true (by first | (with_reducible assumption) | assumption); obtain ⟨ad460, e460, hx460_0⟩ := Kd.at_string HR3.out (ji12) p460 q460; cases e460; replace hx460_0 := (HB.out.cell (World.block_lt_of_cell? w _ hx460_0)).trans hx460_0; replace p460 := eq_true p460; replace q460 := eq_true q460) | ((with_reducible refine gate_callee (f := 95) rfl ?_); refine goesL_ (some 68) rfl rfl Tryz.func95 (by kernel_rfl) rfl #[.string t459, .string (rdOf ByteArray.empty l3 (ji12))] rfl (by (try simp only [List.map_toArray, List.map_cons, List.map_nil]); first | done | (simp only [hji12]; rfl) | rfl | (simp only [List.length_drop, List.length_take]; rfl)) ?_; (with_reducible refine (letterlockref10_over.calls k t459 (rdOf ByteArray.empty l3 (ji12)) t461 t462 _ A17.out).mono ?_); rintro e w20 ⟨rfl, hb⟩; refine ⟨_, rfl, ?_⟩; have n0_ := Aside0.mk (below_step bl_ hb); clear HB; have HB := n0_; clear n0_; (try clear hb)))
       go_ret
       exact ⟨by first | rfl | (simp [errW_none, errW_some] <;> rfl) | (simp only [← hji12]; first | rfl | (simp [errW_none, errW_some] <;> rfl)) | (simp [*, errW_none, errW_some] <;> rfl), bl_⟩
      ·rw [if_neg c16] at H
       exact absurd H (by simp)
     ·rw [if_neg c14] at H
      exact absurd H (by simp)
    ·rw [if_neg c13] at H
     exact absurd H (by simp)
   ·rw [if_neg c11] at H
    have c11b0 : decide (a1 < t457) = false := decide_eq_false c11
    clear c11
    obtain ⟨ji21, hji21⟩ : ∃ j_ : Int, (wrap64 ((l3.length : Int) - 1)) = j_ := ⟨_, rfl⟩
    replace H : (if 0 ≤ (ji21) then (if (ji21) < (l3.length : Int) then (if (ji21) ≤ (l3.length : Int) then ((letterlockref10_up.f k (wrap64 (a0 - t457)) (wrap64 (a1 - t457)) a2 (l3.take ((ji21) : Int).toNat)).bind fun t465 => ((letterlockref10_over.f k (rdOf ByteArray.empty l3 (ji21)) t465).bind fun bt466 => (some bt466.1))) else (none)) else (none)) else (none)) = some r := by first | (rw [hji21] at H; exact H) | (simp only [hji21] at H ⊢; exact H)
    (try rw [hji21] at A10)
    have hji21w : (IntKind.i64.wrap ((l3.length : Int) - 1)) = ji21 := (i64_w _).trans hji21
    by_cases c22 : 0 ≤ (ji21)
    ·rw [if_pos c22] at H
     have c22b0 : decide (0 ≤ (ji21)) = true := decide_eq_true c22
     clear c22
     by_cases c23 : (ji21) < (l3.length : Int)
     ·rw [if_pos c23] at H
      have c23b0 : decide ((ji21) < (l3.length : Int)) = true := decide_eq_true c23
      clear c23
      have c24b0 := eq_true (of_decide_eq_true (by first | (with_reducible assumption) | assumption) : 0 ≤ (ji21))
      by_cases c25 : (ji21) ≤ (l3.length : Int)
      ·rw [if_pos c25] at H
       have c25b0 := eq_true c25
       have c25b1 : decide ((ji21) ≤ (l3.length : Int)) = true := decide_eq_true c25
       clear c25
       replace H := Option.bind_eq_some_iff.mp H
       obtain ⟨t465, A260, H⟩ := H
       try dsimp only at H
       have A26 := Aside0.mk A260
       clear A260
       replace H := Option.bind_eq_some_iff.mp H
       obtain ⟨⟨t466, t467⟩, A270, H⟩ := H
       try dsimp only at H
       have A27 := Aside0.mk A270
       clear A270
       obtain rfl := Option.some.inj H
       go_enter Tryz.func80, Tryz.ntmps80
       go_wp2_with (first | ((with_reducible refine gate_callee (f := 94) rfl ?_); refine gL (some 35) Tryz.func94 #[.int .i64 a0] rfl ?_; (with_reducible refine (letterlockref10_first.calls k a0 t457 _ A10.out).mono ?_); rintro e w' ⟨rfl, ⟨nd, rfl⟩⟩; refine ⟨_, rfl, ?_⟩; have p463 : 0 ≤ ((ji21) : Int) := of_decide_eq_true (by first | (with_reducible assumption) | assumption); have q463 : (ji21) < (l3.length : Int) := of_decide_eq_true (by first | (with_reducible assumption) | assumption); obtain ⟨ad463, e463, hx463_0⟩ := Kd.at_string HR3.out (ji21) p463 q463; cases e463; replace p463 := eq_true p463; replace q463 := eq_true q463; obtain ⟨i028, hi028, _, hsz28, _⟩ := info_parts info9; obtain ⟨hcut28, hA28, hC28⟩ := print_take_of (P := Tryz.prog) Value.string (⟨#[]⟩ : ByteArray) 25 9 .i64 Tryz.underlying25 hi028 hsz28 (some ad463) c3 l3 (ji21) (of_decide_eq_true (by first | (with_reducible assumption) | assumption)) (of_decide_eq_true (by first | (with_reducible assumption) | assumption)) HC3.out; have HR464 := Aside0.mk (Kd.C_of_reads (h1 := fun _ => rfl) (hA28 _ (Kd.reads_of_C HR3.out))); have HC464 := Aside0.mk hC28; clear hA28 hC28 hi028 hsz28) | ((with_reducible refine gate_callee (f := 80) rfl ?_); refine goesL_ (some 64) rfl rfl Tryz.func80 (by kernel_rfl) rfl #[.int .i64 (wrap64 (a0 - t457)), .int .i64 (wrap64 (a1 - t457)), .string a2, .slice (some ad463) (l3.take ((ji21) : Int).toNat).length c3] rfl (by (try simp only [List.map_toArray, List.map_cons, List.map_nil]); first | done | (rw [show (l3.take ((ji21) : Int).toNat).length = (ji21).toNat from (by rw [List.length_take]; have h_ : ((ji21) : Int) ≤ (l3.length : Int) := of_decide_eq_true (by first | (with_reducible assumption) | assumption); omega)] <;> rfl) | (simp only [hji21]; rfl) | rfl | (simp only [List.length_drop, List.length_take]; rfl)) ?_; (with_reducible refine (ih k (by omega) (wrap64 (a0 - t457)) (wrap64 (a1 - t457)) a2 _ _ (l3.take ((ji21) : Int).toNat) t465 _ ?side1 ?side2 A26.out).mono ?_); (case side1 => repeat (first | exact HR464.out | (with_reducible refine Kd.C_alloc ?_ _) | (with_reducible refine Kd.C_drewN ?_ _) | (with_reducible refine Kd.C_drew ?_))); (case side2 => exact HC464.out); rintro e w29 ⟨rfl, hb⟩; refine ⟨_, rfl, ?_⟩; have n0_ := Aside0.mk (below_step bl_ hb); clear HB; have HB := n0_; clear n0_; (try clear hb)) | ((with_reducible refine gate_callee (f := 95) rfl ?_); refine goesL_ (some 68) rfl rfl Tryz.func95 (by kernel_rfl) rfl #[.string (rdOf ByteArray.empty l3 (ji21)), .string t465] rfl (by (try simp only [List.map_toArray, List.map_cons, List.map_nil]); first | done | (simp only [hji21]; rfl) | rfl | (simp only [List.length_drop, List.length_take]; rfl)) ?_; (with_reducible refine (letterlockref10_over.calls k (rdOf ByteArray.empty l3 (ji21)) t465 t466 t467 _ A27.out).mono ?_); rintro e w30 ⟨rfl, hb⟩; refine ⟨_, rfl, ?_⟩; have n0_ := Aside0.mk (below_step bl_ hb); clear HB; have HB := n0_; clear n0_; (try clear hb)))
       go_ret
       exact ⟨by first | rfl | (simp [errW_none, errW_some] <;> rfl) | (simp only [← hji21]; first | rfl | (simp [errW_none, errW_some] <;> rfl)) | (simp [*, errW_none, errW_some] <;> rfl), bl_⟩
      ·rw [if_neg c25] at H
       exact absurd H (by simp)
     ·rw [if_neg c23] at H
      exact absurd H (by simp)
    ·rw [if_neg c22] at H
     exact absurd H (by simp)
mutual
def letterlockref10_Verify.j0 : Nat → ByteArray → Int → Int → ByteArray → List ByteArray → Bool → Option (Bool)
 | 0, _, _, _, _, _, _ => none
 | k + 1, x0, x1, x2, x3, x4, x36 => if x36 = true then (some false) else (letterlockref10_Verify.l0 k x0 x1 x2 x3 x4 0)
def letterlockref10_Verify.l0 : Nat → ByteArray → Int → Int → ByteArray → List ByteArray → Int → Option (Bool)
 | 0, _, _, _, _, _, _ => none
 | k + 1, x0, x1, x2, x3, x4, x11 => if x11 < (x4.length : Int) then (if 0 ≤ x11 then ((letterlockref3_Right.f k (rdOf ByteArray.empty x4 x11)).bind fun t471 => (if t471 = true then (letterlockref10_Verify.l0 k x0 x1 x2 x3 x4 (wrap64 (x11 + 1))) else (some false))) else (none)) else ((letterlockref10_up.f k x1 x2 x3 x4).bind fun t472 => (some (t472.toList == x0.toList)))
end
def letterlockref10_Verify.f (k : Nat) (a0 : ByteArray) (a1 : Int) (a2 : Int) (a3 : ByteArray) (l4 : List ByteArray) : Option (Bool) := if a1 < 1 then (letterlockref10_Verify.j0 k a0 a1 a2 a3 l4 true) else (if a1 > 8 then (letterlockref10_Verify.j0 k a0 a1 a2 a3 l4 true) else (if a2 < 0 then (letterlockref10_Verify.j0 k a0 a1 a2 a3 l4 true) else (if a2 ≥ a1 then (letterlockref10_Verify.j0 k a0 a1 a2 a3 l4 true) else ((letterlockref10_leaf.f k a3).bind fun t468 => (if t468 = true then ((letterlockref3_Right.f k a0).bind fun t469 => (letterlockref10_Verify.j0 k a0 a1 a2 a3 l4 (!t469))) else (letterlockref10_Verify.j0 k a0 a1 a2 a3 l4 true))))))
set_option maxHeartbeats 8000000 in
set_option maxRecDepth 100000 in
theorem letterlockref10_Verify.calls (k : Nat) (a0 : ByteArray) (a1 : Int) (a2 : Int) (a3 : ByteArray) (A4 : Option Addr) (c4 : Nat) (l4 : List ByteArray) (r : Bool) (w : World) (hr4 : Kd.C Kd.string w A4 l4.length l4) (hc4 : l4.length ≤ c4) (h : letterlockref10_Verify.f k a0 a1 a2 a3 l4 = some r) :
  Calls Tryz.prog 45 #[.string a0, .int .i64 a1, .int .i64 a2, .string a3, .slice A4 l4.length c4] w fun e w' => e = .returned (.bool r) ∧ Below w.heap.size w w' := by
 have HR4 := Aside0.mk hr4
 have HC4 := Aside0.mk hc4
 clear hr4 hc4
 have HB := Aside0.mk (Below.refl w.heap.size w)
 unfold letterlockref10_Verify.f at h
 have H := h
 clear h
 have HC6 := Aside0.mk H
 clear H
 go_enter Tryz.func45, Tryz.ntmps45
 go_upto_region 1 with (fail)
 go_cut [36] (fun v36 wc => ∃ (kq : Nat) (x36_5 : Bool), v36 = .bool x36_5 ∧ Aside0 (letterlockref10_Verify.j0 kq a0 a1 a2 a3 l4 x36_5 = some r) ∧ Aside0 (kq ≤ k) ∧ Aside0 (Below w.heap.size w wc))
 case first =>
  have H := HC6.out
  clear HC6
  by_cases c7 : a1 < 1
  ·rw [if_pos c7] at H
   have c7b0 : decide (a1 < 1) = true := decide_eq_true c7
   clear c7
   (first | rw [c7b0] | (simp only [i64_w, i32_w]; rw [c7b0]) | rw [c7b1] | skip)
   have H' := Aside0.mk H
   clear H
   go_wp2
   go_meet
   case rel => exact ⟨_, (true), es_, H', ⟨by first | omega | exact Nat.le_refl _⟩, ⟨bl_⟩⟩
  ·rw [if_neg c7] at H
   have c7b0 : decide (a1 < 1) = false := decide_eq_false c7
   clear c7
   (first | rw [c7b0] | (simp only [i64_w, i32_w]; rw [c7b0]) | rw [c7b1] | skip)
   by_cases c8 : a1 > 8
   ·rw [if_pos c8] at H
    have c8b0 : decide (8 < a1) = true := decide_eq_true c8
    clear c8
    have H' := Aside0.mk H
    clear H
    go_wp2
    go_meet
    case rel => exact ⟨_, (true), es_, H', ⟨by first | omega | exact Nat.le_refl _⟩, ⟨bl_⟩⟩
   ·rw [if_neg c8] at H
    have c8b0 : decide (8 < a1) = false := decide_eq_false c8
    clear c8
    by_cases c9 : a2 < 0
    ·rw [if_pos c9] at H
     have c9b0 : decide (a2 < 0) = true := decide_eq_true c9
     clear c9
     have H' := Aside0.mk H
     clear H
     go_wp2
     go_meet
     case rel => exact ⟨_, (true), es_, H', ⟨by first | omega | exact Nat.le_refl _⟩, ⟨bl_⟩⟩
    ·rw [if_neg c9] at H
     have c9b0 : decide (a2 < 0) = false := decide_eq_false c9
     clear c9
     by_cases c10 : a2 ≥ a1
     ·rw [if_pos c10] at H
      have c10b0 : decide (a1 ≤ a2) = true := decide_eq_true c10
      clear c10
      have H' := Aside0.mk H
      clear H
      go_wp2
      go_meet
      case rel => exact ⟨_, (true), es_, H', ⟨by first | omega | exact Nat.le_refl _⟩, ⟨bl_⟩⟩
     ·rw [if_neg c10] at H
      have c10b0 : decide (a1 ≤ a2) = false := decide_eq_false c10
      clear c10
      replace H := Option.bind_eq_some_iff.mp H
      obtain ⟨t468, A110, H⟩ := H
      try dsimp only at H
      have A11 := Aside0.mk A110
      clear A110
      by_cases c12 : t468 = true
      ·subst c12
       rw [if_pos rfl] at H
       replace H := Option.bind_eq_some_iff.mp H
       obtain ⟨t469, A130, H⟩ := H
       try dsimp only at H
       have A13 := Aside0.mk A130
       clear A130
       have H' := Aside0.mk H
       clear H
       go_wp2_with (first | (go_at_call 64; (with_reducible refine (letterlockref10_leaf.calls k a3 true _ A11.out).mono ?_); rintro e w14 ⟨rfl, hb⟩; have n0_ := Aside0.mk (below_step bl_ hb); clear HB; have HB := n0_; clear n0_; (try clear hb)) | (go_at_call 27; (with_reducible refine (letterlockref3_Right.calls k a0 t469 _ A13.out).mono ?_); rintro e w15 ⟨rfl, hb⟩; have n0_ := Aside0.mk (below_step bl_ hb); clear HB; have HB := n0_; clear n0_; (try clear hb)))
       go_meet
       case rel => exact ⟨_, (!t469), es_, H', ⟨by first | omega | exact Nat.le_refl _⟩, ⟨bl_⟩⟩
      ·replace c12 := Bool.eq_false_iff.mpr c12
       subst c12
       rw [if_neg (show ¬ (false = true) by decide)] at H
       have H' := Aside0.mk H
       clear H
       go_wp2_with (first | (go_at_call 64; (with_reducible refine (letterlockref10_leaf.calls k a3 false _ A11.out).mono ?_); rintro e w16 ⟨rfl, hb⟩; have n0_ := Aside0.mk (below_step bl_ hb); clear HB; have HB := n0_; clear n0_; (try clear hb)))
       go_meet
       case rel => exact ⟨_, (true), es_, H', ⟨by first | omega | exact Nat.le_refl _⟩, ⟨bl_⟩⟩
 case rest =>
  clear HC6
  try clear c1
  try clear p2
  try clear c4
  try clear c7
  try clear c7b0
  try clear c8
  try clear c8b0
  try clear c9
  try clear c9b0
  try clear c10
  try clear c10b0
  try clear c12
  obtain ⟨kq, x36_5, rfl, HA, HJ5, HB⟩ := hcut
  cases kq with
  | zero => exact absurd HA.out (by simp [letterlockref10_Verify.j0])
  | succ kj5 =>
   have H := HA.out
   clear HA
   simp only [letterlockref10_Verify.j0] at H
   by_cases c17 : x36_5 = true
   ·subst c17
    rw [if_pos rfl] at H
    obtain rfl := Option.some.inj H
    go_wp2
    go_ret
    exact ⟨eq_, bl_⟩
   ·replace c17 := Bool.eq_false_iff.mpr c17
    subst c17
    rw [if_neg (show ¬ (false = true) by decide)] at H
    have H' := Aside0.mk H
    clear H
    go_wp2
    go_loopg [11] kj5 (fun kq v11 w' => ∃ (x11_2 : Int), v11 = .int .i64 x11_2 ∧ Aside0 (letterlockref10_Verify.l0 kq a0 a1 a2 a3 l4 x11_2 = some r) ∧ Aside0 (kq ≤ kj5) ∧ Aside0 (Below w.heap.size w w'))
    case atStart => exact ⟨(0), es_, H', ⟨Nat.le_refl _⟩, ⟨bl_⟩⟩
    case round =>
     clear H'
     try clear c1
     try clear p2
     try clear c4
     try clear c7
     try clear c7b0
     try clear c8
     try clear c8b0
     try clear c9
     try clear c9b0
     try clear c10
     try clear c10b0
     try clear c12
     try clear c17
     try clear p2
     obtain ⟨x11_2, rfl, HA, HK2, HB⟩ := hrel
     cases gk with
     | zero => exact absurd HA.out (by simp [letterlockref10_Verify.l0])
     | succ k2 =>
      have H := HA.out
      clear HA
      simp only [letterlockref10_Verify.l0] at H
      by_cases c18 : x11_2 < (l4.length : Int)
      ·rw [if_pos c18] at H
       have c18b0 : decide (x11_2 < (l4.length : Int)) = true := decide_eq_true c18
       clear c18
       by_cases c19 : 0 ≤ x11_2
       ·rw [if_pos c19] at H
        have c19b0 : decide (0 ≤ x11_2) = true := decide_eq_true c19
        clear c19
        replace H := Option.bind_eq_some_iff.mp H
        obtain ⟨t471, A200, H⟩ := H
        try dsimp only at H
        have A20 := Aside0.mk A200
        clear A200
        by_cases c21 : t471 = true
        ·subst c21
         rw [if_pos rfl] at H
         have H' := Aside0.mk H
         clear H
         have p470 : 0 ≤ (x11_2 : Int) := of_decide_eq_true (by first | (with_reducible assumption) | assumption)
         have q470 : x11_2 < (l4.length : Int) := of_decide_eq_true (by first | (with_reducible assumption) | assumption)
         obtain ⟨ad470, e470, hx470_0⟩ := Kd.at_string HR4.out x11_2 p470 q470
         cases e470
         replace hx470_0 := (HB.out.cell (World.block_lt_of_cell? w _ hx470_0)).trans hx470_0
         replace p470 := eq_true p470
         replace q470 := eq_true q470
         go_wp2_with (first | ((with_reducible refine gate_callee (f := 27) rfl ?_); refine gL (some 47) Tryz.func27 #[.string (rdOf ByteArray.empty l4 x11_2)] rfl ?_; (with_reducible refine (letterlockref3_Right.calls k2 (rdOf ByteArray.empty l4 x11_2) true _ A20.out).mono ?_); rintro e w22 ⟨rfl, hb⟩; refine ⟨_, rfl, ?_⟩; have n0_ := Aside0.mk (below_step bl_ hb); clear HB; have HB := n0_; clear n0_; (try clear hb)))
         go_roundg k2
         case measure => have := HJ5.out; have := HK2.out; omega
         case rel => exact ⟨(wrap64 (x11_2 + 1)), es_, H', ⟨by have := HJ5.out; have := HK2.out; omega⟩, ⟨bl_⟩⟩
        ·replace c21 := Bool.eq_false_iff.mpr c21
         subst c21
         rw [if_neg (show ¬ (false = true) by decide)] at H
         obtain rfl := Option.some.inj H
         have p470 : 0 ≤ (x11_2 : Int) := of_decide_eq_true (by first | (with_reducible assumption) | assumption)
         have q470 : x11_2 < (l4.length : Int) := of_decide_eq_true (by first | (with_reducible assumption) | assumption)
         obtain ⟨ad470, e470, hx470_0⟩ := Kd.at_string HR4.out x11_2 p470 q470
         cases e470
         replace hx470_0 := (HB.out.cell (World.block_lt_of_cell? w _ hx470_0)).trans hx470_0
         replace p470 := eq_true p470
         replace q470 := eq_true q470
         go_wp2_with (first | ((with_reducible refine gate_callee (f := 27) rfl ?_); refine gL (some 47) Tryz.func27 #[.string (rdOf ByteArray.empty l4 x11_2)] rfl ?_; (with_reducible refine (letterlockref3_Right.calls k2 (rdOf ByteArray.empty l4 x11_2) false _ A20.out).mono ?_); rintro e w23 ⟨rfl, hb⟩; refine ⟨_, rfl, ?_⟩; have n0_ := Aside0.mk (below_step bl_ hb); clear HB; have HB := n0_; clear n0_; (try clear hb)))
         go_ret
         exact ⟨eq_, bl_⟩
       ·rw [if_neg c19] at H
        exact absurd H (by simp)
      ·rw [if_neg c18] at H
       have c18b0 : decide (x11_2 < (l4.length : Int)) = false := decide_eq_false c18
       clear c18
       replace H := Option.bind_eq_some_iff.mp H
       obtain ⟨t472, A240, H⟩ := H
       try dsimp only at H
       have A24 := Aside0.mk A240
       clear A240
       obtain rfl := Option.some.inj H
       go_wp2_with (first | ((with_reducible refine gate_callee (f := 80) rfl ?_); refine gL (some 53) Tryz.func80 #[.int .i64 a1, .int .i64 a2, .string a3, .slice A4 l4.length c4] rfl ?_; (with_reducible refine (letterlockref10_up.calls k2 a1 a2 a3 _ _ l4 t472 _ ?side1 ?side2 A24.out).mono ?_); (case side1 => repeat (first | exact (Kd.C_below HR4.out HB.out) | (with_reducible refine Kd.C_alloc ?_ _) | (with_reducible refine Kd.C_drewN ?_ _) | (with_reducible refine Kd.C_drew ?_))); (case side2 => exact HC4.out); rintro e w25 ⟨rfl, hb⟩; refine ⟨_, rfl, ?_⟩; have n0_ := Aside0.mk (below_step bl_ hb); clear HB; have HB := n0_; clear n0_; (try clear hb)))
       go_ret
       exact ⟨eq_, bl_⟩
end Go.Proofs.YtodiffgpefidoaaGreatDoor.P

