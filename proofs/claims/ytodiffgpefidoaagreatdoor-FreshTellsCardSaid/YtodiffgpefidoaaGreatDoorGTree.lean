/- Slimmed by wip/slim.py. -/
import Derived.Test.YtodiffgpefidoaaGreatDoorG0
import Derived.Test.YtodiffgpefidoaaGreatDoorGTerm
import Derived.Test.YtodiffgpefidoaaGreatDoorXBits
import Derived.Test.YtodiffgpefidoaaGreatDoorXTerm
namespace Go.Proofs.YtodiffgpefidoaaGreatDoor.P
open Go.RowKit Go.Proofs.YtodiffgpefidoaaGreatDoorW.PrintWords Go.Proofs.YtodiffgpefidoaaGreatDoorW.PrintLast Go.Proofs.YtodiffgpefidoaaGreatDoorW.PrintMore
attribute [local go_sem] max2_int min2_int max_two min_two max_three min_three max_four min_four
set_option linter.unusedVariables false
set_option linter.unusedSimpArgs false
def tree_leaf.f (a0 : ByteArray) : Option (Bool) := (term_Parts.f a0).bind fun bt107 => (if bt107.2 = 0 then ((term_Kind.f a0).bind fun t111 => (if t111 = 112 then (if 0 < (bt107.1.length : Int) then ((term_Kind.f (rdOf ByteArray.empty bt107.1 0)).bind fun t113 => (if t113 = 116 then (if 1 < (bt107.1.length : Int) then ((term_Kind.f (rdOf ByteArray.empty bt107.1 1)).bind fun t115 => (some (t115 == 97))) else (none)) else (some false))) else (none)) else (some false))) else (some false))
set_option maxHeartbeats 8000000 in
set_option maxRecDepth 100000 in
theorem tree_leaf.calls (a0 : ByteArray) (r : Bool) (w : World) (h : tree_leaf.f a0 = some r) :
  Calls Tryz.prog 54 #[.string a0] w fun e w' => e = .returned (.bool r) ∧ Below w.heap.size w w' := by
 have HB := Aside0.mk (Below.refl w.heap.size w)
 unfold tree_leaf.f at h
 have H := h
 clear h
 replace H := Option.bind_eq_some_iff.mp H
 obtain ⟨⟨t107, t108⟩, A20, H⟩ := H
 try dsimp only at H
 have A2 := Aside0.mk A20
 clear A20
 by_cases c3 : t108 = 0
 ·rw [if_pos c3] at H
  have c3b0 : (t108 == 0) = true := beq_iff_eq.mpr c3
  have c3b1 : (t108 != 0) = false := bne_eq_false_iff_eq.mpr c3
  clear c3
  replace H := Option.bind_eq_some_iff.mp H
  obtain ⟨t111, A40, H⟩ := H
  try dsimp only at H
  have A4 := Aside0.mk A40
  clear A40
  by_cases c5 : t111 = 112
  ·rw [if_pos c5] at H
   have c5b0 : (t111 == 112) = true := beq_iff_eq.mpr c5
   have c5b1 : (t111 != 112) = false := bne_eq_false_iff_eq.mpr c5
   clear c5
   by_cases c6 : 0 < (t107.length : Int)
   ·rw [if_pos c6] at H
    have c6b0 : decide (0 < (t107.length : Int)) = true := decide_eq_true c6
    have c6b1 : decide (0 < t107.length) = true := decide_eq_true (by omega)
    clear c6
    replace H := Option.bind_eq_some_iff.mp H
    obtain ⟨t113, A70, H⟩ := H
    try dsimp only at H
    have A7 := Aside0.mk A70
    clear A70
    by_cases c8 : t113 = 116
    ·rw [if_pos c8] at H
     have c8b0 : (t113 == 116) = true := beq_iff_eq.mpr c8
     have c8b1 : (t113 != 116) = false := bne_eq_false_iff_eq.mpr c8
     clear c8
     by_cases c9 : 1 < (t107.length : Int)
     ·rw [if_pos c9] at H
      have c9b0 : decide (1 < (t107.length : Int)) = true := decide_eq_true c9
      have c9b1 : decide (1 < t107.length) = true := decide_eq_true (by omega)
      clear c9
      replace H := Option.bind_eq_some_iff.mp H
      obtain ⟨t115, A100, H⟩ := H
      try dsimp only at H
      have A10 := Aside0.mk A100
      clear A100
      obtain rfl := Option.some.inj H
      go_enter Tryz.func54, Tryz.ntmps54
      go_wp2_with (first | ((with_reducible refine gate_callee (f := 87) rfl ?_); refine gL (some 7) Tryz.func87 #[.string a0] rfl ?_; (with_reducible refine (term_Parts.calls a0 t107 t108 _ A2.out).mono ?_); rintro e w11 ⟨v109, rfl, ho0, hb⟩; refine ⟨_, rfl, ?_⟩; have n0_ := Aside0.mk (Kd.R_lower ho0 (below_size bl_)); have n1_ := Aside0.mk (below_step bl_ hb); clear HB; have HO110 := n0_; have HB := n1_; clear n0_ n1_; (try clear hb); (try clear ho0)) | (go_at_call 21; (with_reducible refine (term_Kind.calls a0 t111 _ A4.out).mono ?_); rintro e w12 ⟨rfl, hb⟩; have n0_ := Aside0.mk (Kd.R_below (by (with_reducible repeat (first | apply Kd.R_alloc | apply Kd.R_drewN | apply Kd.R_drew)); exact HO110.out) hb); have n1_ := Aside0.mk (below_step bl_ hb); clear HO110; clear HB; have HO110 := n0_; have HB := n1_; clear n0_ n1_; (try clear hb); obtain ⟨Ao13, co13, eo13⟩ := Kd.R_slice HO110.out; subst eo13; have p112 : 0 ≤ (0 : Int) := (by omega); have q112 : 0 < (t107.length : Int) := of_decide_eq_true (by first | (with_reducible assumption) | assumption); obtain ⟨ad112, e112, hx112_0⟩ := Kd.at_string (Kd.R_reads' HO110.out).2.2 0 p112 q112; cases e112; have qi112 : (0 < t107.length) = True := eq_true (by omega); (try rw [show ((0 : Int)).toNat = 0 from rfl] at hx112_0); (try rw [Addr.add_zero'] at hx112_0); replace p112 := eq_true p112; replace q112 := eq_true q112) | (go_at_call 21; (with_reducible refine (term_Kind.calls (rdOf ByteArray.empty t107 0) t113 _ A7.out).mono ?_); rintro e w14 ⟨rfl, hb⟩; have n0_ := Aside0.mk (Kd.R_below (by (with_reducible repeat (first | apply Kd.R_alloc | apply Kd.R_drewN | apply Kd.R_drew)); exact HO110.out) hb); have n1_ := Aside0.mk (below_step bl_ hb); clear HO110; clear HB; have HO110 := n0_; have HB := n1_; clear n0_ n1_; (try clear hb); have p114 : 0 ≤ (1 : Int) := (by omega); have q114 : 1 < (t107.length : Int) := of_decide_eq_true (by first | (with_reducible assumption) | assumption); obtain ⟨ad114, e114, hx114_0⟩ := Kd.at_string (Kd.R_reads' HO110.out).2.2 1 p114 q114; obtain rfl : ad112 = ad114 := (by injection e114); (try simp only [show (1 : Int).toNat = 1 from rfl, Nat.reduceMul, Nat.reduceEqDiff, Go.Addr.add, ↓reduceIte] at hx114_0); have qi114 : (1 < t107.length) = True := eq_true (by omega); (try rw [show ((1 : Int)).toNat = 1 from rfl] at hx114_0); replace p114 := eq_true p114; replace q114 := eq_true q114) | (go_at_call 21; (with_reducible refine (term_Kind.calls (rdOf ByteArray.empty t107 1) t115 _ A10.out).mono ?_); rintro e w15 ⟨rfl, hb⟩; have n0_ := Aside0.mk (Kd.R_below (by (with_reducible repeat (first | apply Kd.R_alloc | apply Kd.R_drewN | apply Kd.R_drew)); exact HO110.out) hb); have n1_ := Aside0.mk (below_step bl_ hb); clear HO110; clear HB; have HO110 := n0_; have HB := n1_; clear n0_ n1_; (try clear hb)))
      go_ret
      exact ⟨eq_, bl_⟩
     ·rw [if_neg c9] at H
      exact absurd H (by simp)
    ·rw [if_neg c8] at H
     have c8b0 : (t113 == 116) = false := beq_eq_false_iff_ne.mpr c8
     have c8b1 : (t113 != 116) = true := bne_iff_ne.mpr c8
     obtain rfl := Option.some.inj H
     go_enter Tryz.func54, Tryz.ntmps54
     go_wp2_with (first | ((with_reducible refine gate_callee (f := 87) rfl ?_); refine gL (some 7) Tryz.func87 #[.string a0] rfl ?_; (with_reducible refine (term_Parts.calls a0 t107 t108 _ A2.out).mono ?_); rintro e w16 ⟨v109, rfl, ho0, hb⟩; refine ⟨_, rfl, ?_⟩; have n0_ := Aside0.mk (Kd.R_lower ho0 (below_size bl_)); have n1_ := Aside0.mk (below_step bl_ hb); clear HB; have HO110 := n0_; have HB := n1_; clear n0_ n1_; (try clear hb); (try clear ho0)) | (go_at_call 21; (with_reducible refine (term_Kind.calls a0 t111 _ A4.out).mono ?_); rintro e w17 ⟨rfl, hb⟩; have n0_ := Aside0.mk (Kd.R_below (by (with_reducible repeat (first | apply Kd.R_alloc | apply Kd.R_drewN | apply Kd.R_drew)); exact HO110.out) hb); have n1_ := Aside0.mk (below_step bl_ hb); clear HO110; clear HB; have HO110 := n0_; have HB := n1_; clear n0_ n1_; (try clear hb); obtain ⟨Ao18, co18, eo18⟩ := Kd.R_slice HO110.out; subst eo18; have p112 : 0 ≤ (0 : Int) := (by omega); have q112 : 0 < (t107.length : Int) := of_decide_eq_true (by first | (with_reducible assumption) | assumption); obtain ⟨ad112, e112, hx112_0⟩ := Kd.at_string (Kd.R_reads' HO110.out).2.2 0 p112 q112; cases e112; have qi112 : (0 < t107.length) = True := eq_true (by omega); (try rw [show ((0 : Int)).toNat = 0 from rfl] at hx112_0); (try rw [Addr.add_zero'] at hx112_0); replace p112 := eq_true p112; replace q112 := eq_true q112) | (go_at_call 21; (with_reducible refine (term_Kind.calls (rdOf ByteArray.empty t107 0) t113 _ A7.out).mono ?_); rintro e w19 ⟨rfl, hb⟩; have n0_ := Aside0.mk (Kd.R_below (by (with_reducible repeat (first | apply Kd.R_alloc | apply Kd.R_drewN | apply Kd.R_drew)); exact HO110.out) hb); have n1_ := Aside0.mk (below_step bl_ hb); clear HO110; clear HB; have HO110 := n0_; have HB := n1_; clear n0_ n1_; (try clear hb)))
     go_ret
     exact ⟨eq_, bl_⟩
   ·rw [if_neg c6] at H
    exact absurd H (by simp)
  ·rw [if_neg c5] at H
   have c5b0 : (t111 == 112) = false := beq_eq_false_iff_ne.mpr c5
   have c5b1 : (t111 != 112) = true := bne_iff_ne.mpr c5
   obtain rfl := Option.some.inj H
   go_enter Tryz.func54, Tryz.ntmps54
   go_wp2_with (first | ((with_reducible refine gate_callee (f := 87) rfl ?_); refine gL (some 7) Tryz.func87 #[.string a0] rfl ?_; (with_reducible refine (term_Parts.calls a0 t107 t108 _ A2.out).mono ?_); rintro e w20 ⟨v109, rfl, ho0, hb⟩; refine ⟨_, rfl, ?_⟩; have n0_ := Aside0.mk (Kd.R_lower ho0 (below_size bl_)); have n1_ := Aside0.mk (below_step bl_ hb); clear HB; have HO110 := n0_; have HB := n1_; clear n0_ n1_; (try clear hb); (try clear ho0)) | (go_at_call 21; (with_reducible refine (term_Kind.calls a0 t111 _ A4.out).mono ?_); rintro e w21 ⟨rfl, hb⟩; have n0_ := Aside0.mk (Kd.R_below (by (with_reducible repeat (first | apply Kd.R_alloc | apply Kd.R_drewN | apply Kd.R_drew)); exact HO110.out) hb); have n1_ := Aside0.mk (below_step bl_ hb); clear HO110; clear HB; have HO110 := n0_; have HB := n1_; clear n0_ n1_; (try clear hb)))
   go_ret
   exact ⟨eq_, bl_⟩
 ·rw [if_neg c3] at H
  have c3b0 : (t108 == 0) = false := beq_eq_false_iff_ne.mpr c3
  have c3b1 : (t108 != 0) = true := bne_iff_ne.mpr c3
  obtain rfl := Option.some.inj H
  go_enter Tryz.func54, Tryz.ntmps54
  go_wp2_with (first | ((with_reducible refine gate_callee (f := 87) rfl ?_); refine gL (some 7) Tryz.func87 #[.string a0] rfl ?_; (with_reducible refine (term_Parts.calls a0 t107 t108 _ A2.out).mono ?_); rintro e w22 ⟨v109, rfl, ho0, hb⟩; refine ⟨_, rfl, ?_⟩; have n0_ := Aside0.mk (Kd.R_lower ho0 (below_size bl_)); have n1_ := Aside0.mk (below_step bl_ hb); clear HB; have HO110 := n0_; have HB := n1_; clear n0_ n1_; (try clear hb); (try clear ho0)))
  go_ret
  exact ⟨eq_, bl_⟩
def tree_over.f (a0 : ByteArray) (a1 : ByteArray) : Option (ByteArray × Int) := (term_OfPair.f a0 a1).bind fun bt126 => (if bt126.2 = 0 then ((term_OfHash.f bt126.1).bind fun bt128 => (some (bt128.1, bt128.2))) else (some ((⟨#[]⟩ : ByteArray), bt126.2)))
set_option maxHeartbeats 8000000 in
set_option maxRecDepth 100000 in
theorem tree_over.calls (a0 : ByteArray) (a1 : ByteArray) (r1 : ByteArray) (r2 : Int) (w : World) (h : tree_over.f a0 a1 = some (r1, r2)) :
  Calls Tryz.prog 79 #[.string a0, .string a1] w fun e w' => e = .returned (.tuple #[.string r1, .int .i64 r2]) ∧ Below w.heap.size w w' := by
 have HB := Aside0.mk (Below.refl w.heap.size w)
 unfold tree_over.f at h
 have H := h
 clear h
 replace H := Option.bind_eq_some_iff.mp H
 obtain ⟨⟨t126, t127⟩, A30, H⟩ := H
 try dsimp only at H
 have A3 := Aside0.mk A30
 clear A30
 by_cases c4 : t127 = 0
 ·rw [if_pos c4] at H
  have c4b0 : (t127 == 0) = true := beq_iff_eq.mpr c4
  have c4b1 : (t127 != 0) = false := bne_eq_false_iff_eq.mpr c4
  clear c4
  replace H := Option.bind_eq_some_iff.mp H
  obtain ⟨⟨t128, t129⟩, A50, H⟩ := H
  try dsimp only at H
  have A5 := Aside0.mk A50
  clear A50
  simp only [Option.some.injEq, Prod.mk.injEq] at H
  obtain ⟨rfl, rfl⟩ := H
  go_enter Tryz.func79, Tryz.ntmps79
  go_wp2_with (first | ((with_reducible refine gate_callee (f := 89) rfl ?_); refine gL (some 11) Tryz.func89 #[.string a0, .string a1] rfl ?_; (with_reducible refine (term_OfPair.calls a0 a1 t126 t127 _ A3.out).mono ?_); rintro e w6 ⟨rfl, hb⟩; refine ⟨_, rfl, ?_⟩; have n0_ := Aside0.mk (below_step bl_ hb); clear HB; have HB := n0_; clear n0_; (try clear hb)) | ((with_reducible refine gate_callee (f := 78) rfl ?_); refine gL (some 18) Tryz.func78 #[.string t126] rfl ?_; (with_reducible refine (term_OfHash.calls t126 t128 t129 _ A5.out).mono ?_); rintro e w7 ⟨rfl, hb⟩; refine ⟨_, rfl, ?_⟩; have n0_ := Aside0.mk (below_step bl_ hb); clear HB; have HB := n0_; clear n0_; (try clear hb)))
  go_ret2
  exact ⟨eq_, bl_⟩
 ·rw [if_neg c4] at H
  have c4b0 : (t127 == 0) = false := beq_eq_false_iff_ne.mpr c4
  have c4b1 : (t127 != 0) = true := bne_iff_ne.mpr c4
  simp only [Option.some.injEq, Prod.mk.injEq] at H
  obtain ⟨rfl, rfl⟩ := H
  go_enter Tryz.func79, Tryz.ntmps79
  go_wp2_with (first | ((with_reducible refine gate_callee (f := 89) rfl ?_); refine gL (some 11) Tryz.func89 #[.string a0, .string a1] rfl ?_; (with_reducible refine (term_OfPair.calls a0 a1 t126 t127 _ A3.out).mono ?_); rintro e w8 ⟨rfl, hb⟩; refine ⟨_, rfl, ?_⟩; have n0_ := Aside0.mk (below_step bl_ hb); clear HB; have HB := n0_; clear n0_; (try clear hb)))
  go_ret2
  exact ⟨eq_, bl_⟩
def tree_first.f (a0 : Int) : Option (Int) := (bits_Len.f (IntKind.u64.wrap (wrap64 (a0 - 1)))).bind fun t130 => (if 0 ≤ (wrap64 (t130 - 1)) then (some (shl .i64 1 (wrap64 (t130 - 1)))) else (none))
set_option maxHeartbeats 8000000 in
set_option maxRecDepth 100000 in
theorem tree_first.calls (a0 : Int) (r : Int) (w : World) (h : tree_first.f a0 = some r) :
  Calls Tryz.prog 88 #[.int .i64 a0] w fun e w' => e = .returned (.int .i64 r) ∧ Drawn0 w w' := by
 unfold tree_first.f at h
 have H := h
 clear h
 replace H := Option.bind_eq_some_iff.mp H
 obtain ⟨t130, A20, H⟩ := H
 try dsimp only at H
 have A2 := Aside0.mk A20
 clear A20
 obtain ⟨ji3, hji3⟩ : ∃ j_ : Int, (wrap64 (t130 - 1)) = j_ := ⟨_, rfl⟩
 replace H : (if 0 ≤ (ji3) then (some (shl .i64 1 (ji3))) else (none)) = some r := by first | (rw [hji3] at H; exact H) | (simp only [hji3] at H ⊢; exact H)
 (try rw [hji3] at A2)
 have hji3w : (IntKind.i64.wrap (t130 - 1)) = ji3 := (i64_w _).trans hji3
 by_cases c4 : 0 ≤ (ji3)
 ·rw [if_pos c4] at H
  have c4b0 := eq_true c4
  have c4b1 : decide (0 ≤ (ji3)) = true := decide_eq_true c4
  clear c4
  obtain ⟨ji5, hji5⟩ : ∃ j_ : Int, (shl .i64 1 (ji3)) = j_ := ⟨_, rfl⟩
  replace H : (some ji5) = some r := by first | (rw [hji5] at H; exact H) | (simp only [hji5] at H ⊢; exact H)
  (try rw [hji5] at A2)
  have hji5_ : (IntKind.i64.wrap (1 * 2 ^ min (ji3).toNat 64)) = ji5 := hji5
  have hji5z : (ji3) ≤ 64 → (IntKind.i64.wrap (1 * 2 ^ (ji3).toNat)) = ji5 := shl_small hji5
  have hji5u : (IntKind.i64.wrap (2 ^ min (ji3).toNat 64)) = ji5 := by have h_ := hji5_; rw [Int.one_mul] at h_; exact h_
  have hji5v : (ji3) ≤ 64 → (IntKind.i64.wrap (2 ^ (ji3).toNat)) = ji5 := fun hle_ => by have h_ := hji5z hle_; rw [Int.one_mul] at h_; exact h_
  have hji5y : (wrap64 (1 * 2 ^ min (ji3).toNat 64)) = ji5 := (i64_w _).symm.trans hji5_
  have hji5x : (ji3) ≤ 64 → (wrap64 (1 * 2 ^ (ji3).toNat)) = ji5 := fun h_ => (i64_w _).symm.trans (hji5z h_)
  obtain rfl := Option.some.inj H
  go_enter Tryz.func88, Tryz.ntmps88
  go_wp2_with (first | ((with_reducible refine gate_callee (f := 100) rfl ?_); refine gL (some 6) Tryz.func100 #[.int .u64 (IntKind.u64.wrap (wrap64 (a0 - 1)))] rfl ?_; (with_reducible refine (bits_Len.calls (IntKind.u64.wrap (wrap64 (a0 - 1))) t130 _ A2.out).mono ?_); rintro e w' ⟨rfl, ⟨nd, rfl⟩⟩; refine ⟨_, rfl, ?_⟩))
  go_ret
  exact ⟨by first | rfl | (simp; done) | (simp only [← hji3, ← hji5] <;> (first | rfl | simp)) | (simp [*]; done), by repeat (first | exact Drawn0.refl _ | apply Drawn0.step)⟩
 ·rw [if_neg c4] at H
  exact absurd H (by simp)
def tree_grow.f : Nat → List ByteArray → Option (ByteArray × Int)
 | 0, _ => none
 | k + 1, l0 => if (l0.length : Int) = 1 then (if 0 < (l0.length : Int) then ((term_OfHash.f (rdOf ByteArray.empty l0 0)).bind fun bt132 => (some (bt132.1, bt132.2))) else (none)) else ((tree_first.f (l0.length : Int)).bind fun t134 => (if 0 ≤ t134 then (if t134 ≤ (l0.length : Int) then ((tree_grow.f k (l0.take (t134 : Int).toNat)).bind fun bt136 => (if bt136.2 = 0 then ((tree_grow.f k (l0.drop (t134 : Int).toNat)).bind fun bt139 => (if bt139.2 = 0 then ((tree_over.f bt136.1 bt139.1).bind fun bt141 => (some (bt141.1, bt141.2))) else (some ((⟨#[]⟩ : ByteArray), bt139.2)))) else (some ((⟨#[]⟩ : ByteArray), bt136.2)))) else (none)) else (none)))
set_option maxHeartbeats 8000000 in
set_option maxRecDepth 100000 in
theorem tree_grow.calls (k : Nat) : ∀ (A0 : Option Addr) (c0 : Nat) (l0 : List ByteArray) (r1 : ByteArray) (r2 : Int) (w : World) (hr0 : Kd.C Kd.string w A0 l0.length l0) (hc0 : l0.length ≤ c0) (h : tree_grow.f k l0 = some (r1, r2)),
  Calls Tryz.prog 55 #[.slice A0 l0.length c0] w fun e w' => e = .returned (.tuple #[.string r1, .int .i64 r2]) ∧ Below w.heap.size w w' := by
 induction k using Nat.strongRecOn with
 | _ k ih =>
 intro A0 c0 l0 r1 r2 w hr0 hc0 h
 cases k with
 | zero => exact absurd h (by simp [tree_grow.f])
 | succ k =>
 simp only [tree_grow.f] at h
 have HR0 := Aside0.mk hr0
 have HC0 := Aside0.mk hc0
 clear hr0 hc0
 have HB := Aside0.mk (Below.refl w.heap.size w)
 have H : (if (l0.length : Int) = 1 then (if 0 < (l0.length : Int) then ((term_OfHash.f (rdOf ByteArray.empty l0 0)).bind fun bt132 => (some (bt132.1, bt132.2))) else (none)) else ((tree_first.f (l0.length : Int)).bind fun t134 => (if 0 ≤ t134 then (if t134 ≤ (l0.length : Int) then ((tree_grow.f k (l0.take (t134 : Int).toNat)).bind fun bt136 => (if bt136.2 = 0 then ((tree_grow.f k (l0.drop (t134 : Int).toNat)).bind fun bt139 => (if bt139.2 = 0 then ((tree_over.f bt136.1 bt139.1).bind fun bt141 => (some (bt141.1, bt141.2))) else (some ((⟨#[]⟩ : ByteArray), bt139.2)))) else (some ((⟨#[]⟩ : ByteArray), bt136.2)))) else (none)) else (none)))) = some (r1, r2) := h
 clear h
 by_cases c2 : (l0.length : Int) = 1
 ·rw [if_pos c2] at H
  have c2b0 : ((l0.length : Int) == 1) = true := beq_iff_eq.mpr c2
  have c2b1 : ((l0.length : Int) != 1) = false := bne_eq_false_iff_eq.mpr c2
  clear c2
  by_cases c3 : 0 < (l0.length : Int)
  ·rw [if_pos c3] at H
   have c3b0 : decide (0 < (l0.length : Int)) = true := decide_eq_true c3
   have c3b1 : decide (0 < l0.length) = true := decide_eq_true (by omega)
   clear c3
   replace H := Option.bind_eq_some_iff.mp H
   obtain ⟨⟨t132, t133⟩, A40, H⟩ := H
   try dsimp only at H
   have A4 := Aside0.mk A40
   clear A40
   simp only [Option.some.injEq, Prod.mk.injEq] at H
   obtain ⟨rfl, rfl⟩ := H
   have p131 : 0 ≤ (0 : Int) := (by omega)
   have q131 : 0 < (l0.length : Int) := of_decide_eq_true (by first | (with_reducible assumption) | assumption)
   obtain ⟨ad131, e131, hx131_0⟩ := Kd.at_string HR0.out 0 p131 q131
   cases e131
   have qi131 : (0 < l0.length) = True := eq_true (by omega)
   (try rw [show ((0 : Int)).toNat = 0 from rfl] at hx131_0)
   (try rw [Addr.add_zero'] at hx131_0)
   replace p131 := eq_true p131
   replace q131 := eq_true q131
   go_enter Tryz.func55, Tryz.ntmps55
   go_wp2_with (first | ((with_reducible refine gate_callee (f := 78) rfl ?_); refine gL (some 14) Tryz.func78 #[.string (rdOf ByteArray.empty l0 0)] rfl ?_; (with_reducible refine (term_OfHash.calls (rdOf ByteArray.empty l0 0) t132 t133 _ A4.out).mono ?_); rintro e w5 ⟨rfl, hb⟩; refine ⟨_, rfl, ?_⟩; have n0_ := Aside0.mk (below_step bl_ hb); clear HB; have HB := n0_; clear n0_; (try clear hb)))
   go_ret2
   exact ⟨eq_, bl_⟩
  ·rw [if_neg c3] at H
   exact absurd H (by simp)
 ·rw [if_neg c2] at H
  have c2b0 : ((l0.length : Int) == 1) = false := beq_eq_false_iff_ne.mpr c2
  have c2b1 : ((l0.length : Int) != 1) = true := bne_iff_ne.mpr c2
  replace H := Option.bind_eq_some_iff.mp H
  obtain ⟨t134, A60, H⟩ := H
  try dsimp only at H
  have A6 := Aside0.mk A60
  clear A60
  by_cases c7 : 0 ≤ t134
  ·rw [if_pos c7] at H
   have c7b0 := eq_true c7
   have c7b1 : decide (0 ≤ t134) = true := decide_eq_true c7
   clear c7
   by_cases c8 : t134 ≤ (l0.length : Int)
   ·rw [if_pos c8] at H
    have c8b0 := eq_true c8
    have c8b1 : decide (t134 ≤ (l0.length : Int)) = true := decide_eq_true c8
    clear c8
    replace H := Option.bind_eq_some_iff.mp H
    obtain ⟨⟨t136, t137⟩, A90, H⟩ := H
    try dsimp only at H
    have A9 := Aside0.mk A90
    clear A90
    by_cases c10 : t137 = 0
    ·rw [if_pos c10] at H
     have c10b0 : (t137 == 0) = true := beq_iff_eq.mpr c10
     have c10b1 : (t137 != 0) = false := bne_eq_false_iff_eq.mpr c10
     clear c10
     have c11b0 := eq_true (of_decide_eq_true (by first | (with_reducible assumption) | assumption) : 0 ≤ t134)
     have c12b0 := eq_true (of_decide_eq_true (by first | (with_reducible assumption) | assumption) : t134 ≤ (l0.length : Int))
     replace H := Option.bind_eq_some_iff.mp H
     obtain ⟨⟨t139, t140⟩, A130, H⟩ := H
     try dsimp only at H
     have A13 := Aside0.mk A130
     clear A130
     by_cases c14 : t140 = 0
     ·rw [if_pos c14] at H
      have c14b0 : (t140 == 0) = true := beq_iff_eq.mpr c14
      have c14b1 : (t140 != 0) = false := bne_eq_false_iff_eq.mpr c14
      clear c14
      replace H := Option.bind_eq_some_iff.mp H
      obtain ⟨⟨t141, t142⟩, A150, H⟩ := H
      try dsimp only at H
      have A15 := Aside0.mk A150
      clear A150
      simp only [Option.some.injEq, Prod.mk.injEq] at H
      obtain ⟨rfl, rfl⟩ := H
      go_enter Tryz.func55, Tryz.ntmps55
      go_wp2_with (first | ((with_reducible refine gate_callee (f := 88) rfl ?_); refine gL (some 19) Tryz.func88 #[.int .i64 (l0.length : Int)] rfl ?_; (with_reducible refine (tree_first.calls (l0.length : Int) t134 _ A6.out).mono ?_); rintro e w' ⟨rfl, ⟨nd, rfl⟩⟩; refine ⟨_, rfl, ?_⟩; obtain ⟨i016, hi016, _, hsz16, _⟩ := info_parts info9; obtain ⟨hcut16, hA16, hC16⟩ := print_take_of (P := Tryz.prog) Value.string (⟨#[]⟩ : ByteArray) 25 9 .i64 Tryz.underlying25 hi016 hsz16 A0 c0 l0 t134 (of_decide_eq_true (by first | (with_reducible assumption) | assumption)) (of_decide_eq_true (by first | (with_reducible assumption) | assumption)) HC0.out; have HR135 := Aside0.mk (Kd.C_of_reads (h1 := fun _ => rfl) (hA16 _ (Kd.reads_of_C HR0.out))); have HC135 := Aside0.mk hC16; clear hA16 hC16 hi016 hsz16) | ((with_reducible refine gate_callee (f := 55) rfl ?_); refine goesL_ (some 24) rfl rfl Tryz.func55 (by kernel_rfl) rfl #[.slice A0 (l0.take (t134 : Int).toNat).length c0] rfl (by (try simp only [List.map_toArray, List.map_cons, List.map_nil]); first | done | (rw [show (l0.take (t134 : Int).toNat).length = t134.toNat from (by rw [List.length_take]; have h_ : (t134 : Int) ≤ (l0.length : Int) := of_decide_eq_true (by first | (with_reducible assumption) | assumption); omega)] <;> rfl) | rfl | (simp only [List.length_drop, List.length_take]; rfl)) ?_; (with_reducible refine (ih k (by omega) _ _ (l0.take (t134 : Int).toNat) t136 t137 _ ?side1 ?side2 A9.out).mono ?_); (case side1 => repeat (first | exact HR135.out | (with_reducible refine Kd.C_alloc ?_ _) | (with_reducible refine Kd.C_drewN ?_ _) | (with_reducible refine Kd.C_drew ?_))); (case side2 => exact HC135.out); rintro e w17 ⟨rfl, hb⟩; refine ⟨_, rfl, ?_⟩; have n0_ := Aside0.mk (below_step bl_ hb); clear HB; have HB := n0_; clear n0_; (try clear hb); obtain ⟨i018, hi018, _, hsz18, _⟩ := info_parts info9; obtain ⟨A18, hcut18, hA18, hC18⟩ := print_drop_of (P := Tryz.prog) Value.string (⟨#[]⟩ : ByteArray) 25 9 .i64 Tryz.underlying25 hi018 hsz18 A0 c0 l0 t134 (of_decide_eq_true (by first | (with_reducible assumption) | assumption)) (of_decide_eq_true (by first | (with_reducible assumption) | assumption)) HC0.out; have HR138 := Aside0.mk (Kd.C_of_reads (h1 := fun _ => rfl) (hA18 _ (Kd.reads_of_C HR0.out))); have HC138 := Aside0.mk hC18; clear hA18 hC18 hi018 hsz18) | ((with_reducible refine gate_callee (f := 55) rfl ?_); refine goesL_ (some 34) rfl rfl Tryz.func55 (by kernel_rfl) rfl #[.slice A18 (l0.drop (t134 : Int).toNat).length (c0 - t134.toNat)] rfl (by (try simp only [List.map_toArray, List.map_cons, List.map_nil]); first | done | (rw [show (l0.drop (t134 : Int).toNat).length = (l0.length - t134.toNat) from List.length_drop] <;> rfl) | rfl | (simp only [List.length_drop, List.length_take]; rfl)) ?_; (with_reducible refine (ih k (by omega) _ _ (l0.drop (t134 : Int).toNat) t139 t140 _ ?side1 ?side2 A13.out).mono ?_); (case side1 => repeat (first | exact (Kd.C_below HR138.out HB.out) | (with_reducible refine Kd.C_alloc ?_ _) | (with_reducible refine Kd.C_drewN ?_ _) | (with_reducible refine Kd.C_drew ?_))); (case side2 => exact HC138.out); rintro e w19 ⟨rfl, hb⟩; refine ⟨_, rfl, ?_⟩; have n0_ := Aside0.mk (below_step bl_ hb); clear HB; have HB := n0_; clear n0_; (try clear hb)) | ((with_reducible refine gate_callee (f := 79) rfl ?_); refine gL (some 42) Tryz.func79 #[.string t136, .string t139] rfl ?_; (with_reducible refine (tree_over.calls t136 t139 t141 t142 _ A15.out).mono ?_); rintro e w20 ⟨rfl, hb⟩; refine ⟨_, rfl, ?_⟩; have n0_ := Aside0.mk (below_step bl_ hb); clear HB; have HB := n0_; clear n0_; (try clear hb)))
      go_ret2
      exact ⟨eq_, bl_⟩
     ·rw [if_neg c14] at H
      have c14b0 : (t140 == 0) = false := beq_eq_false_iff_ne.mpr c14
      have c14b1 : (t140 != 0) = true := bne_iff_ne.mpr c14
      simp only [Option.some.injEq, Prod.mk.injEq] at H
      obtain ⟨rfl, rfl⟩ := H
      go_enter Tryz.func55, Tryz.ntmps55
      go_wp2_with (first | ((with_reducible refine gate_callee (f := 88) rfl ?_); refine gL (some 19) Tryz.func88 #[.int .i64 (l0.length : Int)] rfl ?_; (with_reducible refine (tree_first.calls (l0.length : Int) t134 _ A6.out).mono ?_); rintro e w' ⟨rfl, ⟨nd, rfl⟩⟩; refine ⟨_, rfl, ?_⟩; obtain ⟨i021, hi021, _, hsz21, _⟩ := info_parts info9; obtain ⟨hcut21, hA21, hC21⟩ := print_take_of (P := Tryz.prog) Value.string (⟨#[]⟩ : ByteArray) 25 9 .i64 Tryz.underlying25 hi021 hsz21 A0 c0 l0 t134 (of_decide_eq_true (by first | (with_reducible assumption) | assumption)) (of_decide_eq_true (by first | (with_reducible assumption) | assumption)) HC0.out; have HR135 := Aside0.mk (Kd.C_of_reads (h1 := fun _ => rfl) (hA21 _ (Kd.reads_of_C HR0.out))); have HC135 := Aside0.mk hC21; clear hA21 hC21 hi021 hsz21) | ((with_reducible refine gate_callee (f := 55) rfl ?_); refine goesL_ (some 24) rfl rfl Tryz.func55 (by kernel_rfl) rfl #[.slice A0 (l0.take (t134 : Int).toNat).length c0] rfl (by (try simp only [List.map_toArray, List.map_cons, List.map_nil]); first | done | (rw [show (l0.take (t134 : Int).toNat).length = t134.toNat from (by rw [List.length_take]; have h_ : (t134 : Int) ≤ (l0.length : Int) := of_decide_eq_true (by first | (with_reducible assumption) | assumption); omega)] <;> rfl) | rfl | (simp only [List.length_drop, List.length_take]; rfl)) ?_; (with_reducible refine (ih k (by omega) _ _ (l0.take (t134 : Int).toNat) t136 t137 _ ?side1 ?side2 A9.out).mono ?_); (case side1 => repeat (first | exact HR135.out | (with_reducible refine Kd.C_alloc ?_ _) | (with_reducible refine Kd.C_drewN ?_ _) | (with_reducible refine Kd.C_drew ?_))); (case side2 => exact HC135.out); rintro e w22 ⟨rfl, hb⟩; refine ⟨_, rfl, ?_⟩; have n0_ := Aside0.mk (below_step bl_ hb); clear HB; have HB := n0_; clear n0_; (try clear hb); obtain ⟨i023, hi023, _, hsz23, _⟩ := info_parts info9; obtain ⟨A23, hcut23, hA23, hC23⟩ := print_drop_of (P := Tryz.prog) Value.string (⟨#[]⟩ : ByteArray) 25 9 .i64 Tryz.underlying25 hi023 hsz23 A0 c0 l0 t134 (of_decide_eq_true (by first | (with_reducible assumption) | assumption)) (of_decide_eq_true (by first | (with_reducible assumption) | assumption)) HC0.out; have HR138 := Aside0.mk (Kd.C_of_reads (h1 := fun _ => rfl) (hA23 _ (Kd.reads_of_C HR0.out))); have HC138 := Aside0.mk hC23; clear hA23 hC23 hi023 hsz23) | ((with_reducible refine gate_callee (f := 55) rfl ?_); refine goesL_ (some 34) rfl rfl Tryz.func55 (by kernel_rfl) rfl #[.slice A23 (l0.drop (t134 : Int).toNat).length (c0 - t134.toNat)] rfl (by (try simp only [List.map_toArray, List.map_cons, List.map_nil]); first | done | (rw [show (l0.drop (t134 : Int).toNat).length = (l0.length - t134.toNat) from List.length_drop] <;> rfl) | rfl | (simp only [List.length_drop, List.length_take]; rfl)) ?_; (with_reducible refine (ih k (by omega) _ _ (l0.drop (t134 : Int).toNat) t139 t140 _ ?side1 ?side2 A13.out).mono ?_); (case side1 => repeat (first | exact (Kd.C_below HR138.out HB.out) | (with_reducible refine Kd.C_alloc ?_ _) | (with_reducible refine Kd.C_drewN ?_ _) | (with_reducible refine Kd.C_drew ?_))); (case side2 => exact HC138.out); rintro e w24 ⟨rfl, hb⟩; refine ⟨_, rfl, ?_⟩; have n0_ := Aside0.mk (below_step bl_ hb); clear HB; have HB := n0_; clear n0_; (try clear hb)))
      go_ret2
      exact ⟨eq_, bl_⟩
    ·rw [if_neg c10] at H
     have c10b0 : (t137 == 0) = false := beq_eq_false_iff_ne.mpr c10
     have c10b1 : (t137 != 0) = true := bne_iff_ne.mpr c10
     simp only [Option.some.injEq, Prod.mk.injEq] at H
     obtain ⟨rfl, rfl⟩ := H
     go_enter Tryz.func55, Tryz.ntmps55
     go_wp2_with (first | ((with_reducible refine gate_callee (f := 88) rfl ?_); refine gL (some 19) Tryz.func88 #[.int .i64 (l0.length : Int)] rfl ?_; (with_reducible refine (tree_first.calls (l0.length : Int) t134 _ A6.out).mono ?_); rintro e w' ⟨rfl, ⟨nd, rfl⟩⟩; refine ⟨_, rfl, ?_⟩; obtain ⟨i025, hi025, _, hsz25, _⟩ := info_parts info9; obtain ⟨hcut25, hA25, hC25⟩ := print_take_of (P := Tryz.prog) Value.string (⟨#[]⟩ : ByteArray) 25 9 .i64 Tryz.underlying25 hi025 hsz25 A0 c0 l0 t134 (of_decide_eq_true (by first | (with_reducible assumption) | assumption)) (of_decide_eq_true (by first | (with_reducible assumption) | assumption)) HC0.out; have HR135 := Aside0.mk (Kd.C_of_reads (h1 := fun _ => rfl) (hA25 _ (Kd.reads_of_C HR0.out))); have HC135 := Aside0.mk hC25; clear hA25 hC25 hi025 hsz25) | ((with_reducible refine gate_callee (f := 55) rfl ?_); refine goesL_ (some 24) rfl rfl Tryz.func55 (by kernel_rfl) rfl #[.slice A0 (l0.take (t134 : Int).toNat).length c0] rfl (by (try simp only [List.map_toArray, List.map_cons, List.map_nil]); first | done | (rw [show (l0.take (t134 : Int).toNat).length = t134.toNat from (by rw [List.length_take]; have h_ : (t134 : Int) ≤ (l0.length : Int) := of_decide_eq_true (by first | (with_reducible assumption) | assumption); omega)] <;> rfl) | rfl | (simp only [List.length_drop, List.length_take]; rfl)) ?_; (with_reducible refine (ih k (by omega) _ _ (l0.take (t134 : Int).toNat) t136 t137 _ ?side1 ?side2 A9.out).mono ?_); (case side1 => repeat (first | exact HR135.out | (with_reducible refine Kd.C_alloc ?_ _) | (with_reducible refine Kd.C_drewN ?_ _) | (with_reducible refine Kd.C_drew ?_))); (case side2 => exact HC135.out); rintro e w26 ⟨rfl, hb⟩; refine ⟨_, rfl, ?_⟩; have n0_ := Aside0.mk (below_step bl_ hb); clear HB; have HB := n0_; clear n0_; (try clear hb)))
     go_ret2
     exact ⟨eq_, bl_⟩
   ·rw [if_neg c8] at H
    exact absurd H (by simp)
  ·rw [if_neg c7] at H
   exact absurd H (by simp)
end Go.Proofs.YtodiffgpefidoaaGreatDoor.P

