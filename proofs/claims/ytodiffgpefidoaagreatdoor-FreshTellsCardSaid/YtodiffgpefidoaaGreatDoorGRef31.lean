/- Slimmed by wip/slim.py. -/
import Derived.Test.YtodiffgpefidoaaGreatDoorG0
import Derived.Test.YtodiffgpefidoaaGreatDoorGRef3
namespace Go.Proofs.YtodiffgpefidoaaGreatDoor.P
open Go.RowKit Go.Proofs.YtodiffgpefidoaaGreatDoorW.PrintWords Go.Proofs.YtodiffgpefidoaaGreatDoorW.PrintLast Go.Proofs.YtodiffgpefidoaaGreatDoorW.PrintMore
attribute [local go_sem] max2_int min2_int max_two min_two max_three min_three max_four min_four
set_option linter.unusedVariables false
set_option linter.unusedSimpArgs false
def letterlockref3_Verify.j0 : Nat → ByteArray → ByteArray → ByteArray → Bool → Option (Int)
 | 0, _, _, _, _ => none
 | k + 1, x0, x1, x2, x19 => if x19 = true then (some 1) else (if 0 < (x0.size : Int) then (if (bt x0 0) = 117 then (if 1 ≤ (x0.size : Int) then (if 1 + (x0.extract 1 x0.size).size ≤ 9223372036854775807 then (if ((⟨#[103]⟩ : ByteArray) ++ (x0.extract 1 x0.size)).size + x1.size ≤ 9223372036854775807 then (if x2.toList = (((⟨#[103]⟩ : ByteArray) ++ (x0.extract 1 x0.size)) ++ x1).toList then (some 0) else (some 7)) else (none)) else (none)) else (none)) else (some 7)) else (none))
def letterlockref3_Verify.f (k : Nat) (a0 : ByteArray) (a1 : ByteArray) (a2 : ByteArray) : Option (Int) := (letterlockref3_Right.f k a0).bind fun t443 => (if t443 = true then ((letterlockref3_Right.f k a1).bind fun t444 => (if t444 = true then ((letterlockref3_Right.f k a2).bind fun t445 => (letterlockref3_Verify.j0 k a0 a1 a2 (!t445))) else (letterlockref3_Verify.j0 k a0 a1 a2 true))) else (letterlockref3_Verify.j0 k a0 a1 a2 true))
set_option maxHeartbeats 8000000 in
set_option maxRecDepth 100000 in
theorem letterlockref3_Verify.calls (k : Nat) (a0 : ByteArray) (a1 : ByteArray) (a2 : ByteArray) (r : Int) (w : World) (h : letterlockref3_Verify.f k a0 a1 a2 = some r) :
  Calls Tryz.prog 43 #[.string a0, .string a1, .string a2] w fun e w' => e = .returned (.int .i64 r) ∧ Below w.heap.size w w' := by
 have HB := Aside0.mk (Below.refl w.heap.size w)
 unfold letterlockref3_Verify.f at h
 have H := h
 clear h
 have HC4 := Aside0.mk H
 clear H
 go_enter Tryz.func43, Tryz.ntmps43
 go_upto_region 1 with (fail)
 go_cut [19] (fun v19 wc => ∃ (kq : Nat) (x19_3 : Bool), v19 = .bool x19_3 ∧ Aside0 (letterlockref3_Verify.j0 kq a0 a1 a2 x19_3 = some r) ∧ Aside0 (kq ≤ k) ∧ Aside0 (Below w.heap.size w wc))
 case first =>
  have H := HC4.out
  clear HC4
  replace H := Option.bind_eq_some_iff.mp H
  obtain ⟨t443, A50, H⟩ := H
  try dsimp only at H
  have A5 := Aside0.mk A50
  clear A50
  by_cases c6 : t443 = true
  ·subst c6
   rw [if_pos rfl] at H
   replace H := Option.bind_eq_some_iff.mp H
   obtain ⟨t444, A70, H⟩ := H
   try dsimp only at H
   have A7 := Aside0.mk A70
   clear A70
   by_cases c8 : t444 = true
   ·subst c8
    rw [if_pos rfl] at H
    replace H := Option.bind_eq_some_iff.mp H
    obtain ⟨t445, A90, H⟩ := H
    try dsimp only at H
    have A9 := Aside0.mk A90
    clear A90
    have H' := Aside0.mk H
    clear H
    go_wp2_with (first | ((with_reducible refine gate_callee (f := 27) rfl ?_); refine gL (some 8) Tryz.func27 #[.string a0] rfl ?_; (with_reducible refine (letterlockref3_Right.calls k a0 true _ A5.out).mono ?_); rintro e w10 ⟨rfl, hb⟩; refine ⟨_, rfl, ?_⟩; have n0_ := Aside0.mk (below_step bl_ hb); clear HB; have HB := n0_; clear n0_; (try clear hb)) | (go_at_call 27; (with_reducible refine (letterlockref3_Right.calls k a1 true _ A7.out).mono ?_); rintro e w11 ⟨rfl, hb⟩; have n0_ := Aside0.mk (below_step bl_ hb); clear HB; have HB := n0_; clear n0_; (try clear hb)) | (go_at_call 27; (with_reducible refine (letterlockref3_Right.calls k a2 t445 _ A9.out).mono ?_); rintro e w12 ⟨rfl, hb⟩; have n0_ := Aside0.mk (below_step bl_ hb); clear HB; have HB := n0_; clear n0_; (try clear hb)))
    go_meet
    case rel => exact ⟨_, (!t445), es_, H', ⟨by first | omega | exact Nat.le_refl _⟩, ⟨bl_⟩⟩
   ·replace c8 := Bool.eq_false_iff.mpr c8
    subst c8
    rw [if_neg (show ¬ (false = true) by decide)] at H
    have H' := Aside0.mk H
    clear H
    go_wp2_with (first | ((with_reducible refine gate_callee (f := 27) rfl ?_); refine gL (some 8) Tryz.func27 #[.string a0] rfl ?_; (with_reducible refine (letterlockref3_Right.calls k a0 true _ A5.out).mono ?_); rintro e w13 ⟨rfl, hb⟩; refine ⟨_, rfl, ?_⟩; have n0_ := Aside0.mk (below_step bl_ hb); clear HB; have HB := n0_; clear n0_; (try clear hb)) | (go_at_call 27; (with_reducible refine (letterlockref3_Right.calls k a1 false _ A7.out).mono ?_); rintro e w14 ⟨rfl, hb⟩; have n0_ := Aside0.mk (below_step bl_ hb); clear HB; have HB := n0_; clear n0_; (try clear hb)))
    go_meet
    case rel => exact ⟨_, (true), es_, H', ⟨by first | omega | exact Nat.le_refl _⟩, ⟨bl_⟩⟩
  ·replace c6 := Bool.eq_false_iff.mpr c6
   subst c6
   rw [if_neg (show ¬ (false = true) by decide)] at H
   have H' := Aside0.mk H
   clear H
   go_wp2_with (first | ((with_reducible refine gate_callee (f := 27) rfl ?_); refine gL (some 8) Tryz.func27 #[.string a0] rfl ?_; (with_reducible refine (letterlockref3_Right.calls k a0 false _ A5.out).mono ?_); rintro e w15 ⟨rfl, hb⟩; refine ⟨_, rfl, ?_⟩; have n0_ := Aside0.mk (below_step bl_ hb); clear HB; have HB := n0_; clear n0_; (try clear hb)))
   go_meet
   case rel => exact ⟨_, (true), es_, H', ⟨by first | omega | exact Nat.le_refl _⟩, ⟨bl_⟩⟩
 case rest =>
  clear HC4
  try clear c2
  try clear p2
  try clear c4
  try clear c6
  try clear c8
  obtain ⟨kq, x19_3, rfl, HA, HJ3, HB⟩ := hcut
  cases kq with
  | zero => exact absurd HA.out (by simp [letterlockref3_Verify.j0])
  | succ kj3 =>
   have H := HA.out
   clear HA
   simp only [letterlockref3_Verify.j0] at H
   by_cases c16 : x19_3 = true
   ·subst c16
    rw [if_pos rfl] at H
    obtain rfl := Option.some.inj H
    go_wp2
    go_ret
    exact ⟨eq_, bl_⟩
   ·replace c16 := Bool.eq_false_iff.mpr c16
    subst c16
    rw [if_neg (show ¬ (false = true) by decide)] at H
    by_cases c17 : 0 < (a0.size : Int)
    ·rw [if_pos c17] at H
     have c17b0 : decide (0 < (a0.size : Int)) = true := decide_eq_true c17
     have c17b1 : decide (0 < a0.size) = true := decide_eq_true (by omega)
     clear c17
     by_cases c19 : (bt a0 0) = 117
     ·rw [if_pos c19] at H
      have c19b0 : ((bt a0 0) == 117) = true := beq_iff_eq.mpr c19
      have c19b1 : ((bt a0 0) != 117) = false := bne_eq_false_iff_eq.mpr c19
      clear c19
      by_cases c20 : 1 ≤ (a0.size : Int)
      ·rw [if_pos c20] at H
       have c20b0 := eq_true c20
       have c20b1 : decide (1 ≤ (a0.size : Int)) = true := decide_eq_true c20
       clear c20
       by_cases c21 : 1 + (a0.extract 1 a0.size).size ≤ 9223372036854775807
       ·rw [if_pos c21] at H
        have c21b0 := eq_true c21
        have c21b1 : decide (1 + (a0.extract 1 a0.size).size ≤ 9223372036854775807) = true := decide_eq_true c21
        try have c21b2 : (9223372036854775807 < 1 + (a0.extract 1 a0.size).size) = False := eq_false (Nat.not_lt.2 c21)
        (try (have c21b0n := c21b0; simp only [ByteArray.size_append, ByteArray.size_extract, Nat.min_self, size_lit1, Int.natCast_add, Int.natCast_one] at c21b0n))
        (try (have c21b1n := c21b1; simp only [ByteArray.size_append, ByteArray.size_extract, Nat.min_self, size_lit1, Int.natCast_add, Int.natCast_one] at c21b1n))
        (try (have c21b2n := c21b2; simp only [ByteArray.size_append, ByteArray.size_extract, Nat.min_self, size_lit1, Int.natCast_add, Int.natCast_one] at c21b2n))
        by_cases c22 : ((⟨#[103]⟩ : ByteArray) ++ (a0.extract 1 a0.size)).size + a1.size ≤ 9223372036854775807
        ·rw [if_pos c22] at H
         have c22b0 := eq_true c22
         have c22b1 : decide (((⟨#[103]⟩ : ByteArray) ++ (a0.extract 1 a0.size)).size + a1.size ≤ 9223372036854775807) = true := decide_eq_true c22
         try have c22b2 : (9223372036854775807 < ((⟨#[103]⟩ : ByteArray) ++ (a0.extract 1 a0.size)).size + a1.size) = False := eq_false (Nat.not_lt.2 c22)
         (try (have c22b0n := c22b0; simp only [ByteArray.size_append, ByteArray.size_extract, Nat.min_self, size_lit1, Int.natCast_add, Int.natCast_one] at c22b0n))
         (try (have c22b1n := c22b1; simp only [ByteArray.size_append, ByteArray.size_extract, Nat.min_self, size_lit1, Int.natCast_add, Int.natCast_one] at c22b1n))
         (try (have c22b2n := c22b2; simp only [ByteArray.size_append, ByteArray.size_extract, Nat.min_self, size_lit1, Int.natCast_add, Int.natCast_one] at c22b2n))
         by_cases c23 : a2.toList = (((⟨#[103]⟩ : ByteArray) ++ (a0.extract 1 a0.size)) ++ a1).toList
         ·rw [if_pos c23] at H
          have c23b0 : (a2.toList == (((⟨#[103]⟩ : ByteArray) ++ (a0.extract 1 a0.size)) ++ a1).toList) = true := beq_iff_eq.mpr c23
          have c23b1 : (a2.toList != (((⟨#[103]⟩ : ByteArray) ++ (a0.extract 1 a0.size)) ++ a1).toList) = false := bne_eq_false_iff_eq.mpr c23
          clear c23
          obtain rfl := Option.some.inj H
          have p18 : 0 ≤ (0 : Int) := (by omega)
          have q18 : 0 < a0.size := (by have : (0 : Int) < (a0.size : Int) := of_decide_eq_true (by first | (with_reducible assumption) | assumption); omega)
          have hx18 : ∀ h : 0 < a0.size, ((a0[0]'h).toNat : Int) = bt a0 0 := bt_at a0 0
          clear p18
          have qi18 : (0 < (a0.size : Int)) = True := eq_true (of_decide_eq_true (by first | (with_reducible assumption) | assumption))
          replace q18 := eq_true q18
          go_wp2
          go_ret
          exact ⟨eq_, bl_⟩
         ·rw [if_neg c23] at H
          have c23b0 : (a2.toList == (((⟨#[103]⟩ : ByteArray) ++ (a0.extract 1 a0.size)) ++ a1).toList) = false := beq_eq_false_iff_ne.mpr c23
          have c23b1 : (a2.toList != (((⟨#[103]⟩ : ByteArray) ++ (a0.extract 1 a0.size)) ++ a1).toList) = true := bne_iff_ne.mpr c23
          obtain rfl := Option.some.inj H
          have p18 : 0 ≤ (0 : Int) := (by omega)
          have q18 : 0 < a0.size := (by have : (0 : Int) < (a0.size : Int) := of_decide_eq_true (by first | (with_reducible assumption) | assumption); omega)
          have hx18 : ∀ h : 0 < a0.size, ((a0[0]'h).toNat : Int) = bt a0 0 := bt_at a0 0
          clear p18
          have qi18 : (0 < (a0.size : Int)) = True := eq_true (of_decide_eq_true (by first | (with_reducible assumption) | assumption))
          replace q18 := eq_true q18
          go_wp2
          go_ret
          exact ⟨eq_, bl_⟩
        ·rw [if_neg c22] at H
         exact absurd H (by simp)
       ·rw [if_neg c21] at H
        exact absurd H (by simp)
      ·rw [if_neg c20] at H
       exact absurd H (by simp)
     ·rw [if_neg c19] at H
      have c19b0 : ((bt a0 0) == 117) = false := beq_eq_false_iff_ne.mpr c19
      have c19b1 : ((bt a0 0) != 117) = true := bne_iff_ne.mpr c19
      obtain rfl := Option.some.inj H
      have p18 : 0 ≤ (0 : Int) := (by omega)
      have q18 : 0 < a0.size := (by have : (0 : Int) < (a0.size : Int) := of_decide_eq_true (by first | (with_reducible assumption) | assumption); omega)
      have hx18 : ∀ h : 0 < a0.size, ((a0[0]'h).toNat : Int) = bt a0 0 := bt_at a0 0
      clear p18
      have qi18 : (0 < (a0.size : Int)) = True := eq_true (of_decide_eq_true (by first | (with_reducible assumption) | assumption))
      replace q18 := eq_true q18
      go_wp2
      go_ret
      exact ⟨eq_, bl_⟩
    ·rw [if_neg c17] at H
     exact absurd H (by simp)
end Go.Proofs.YtodiffgpefidoaaGreatDoor.P

