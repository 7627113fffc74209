/- Slimmed by wip/slim.py. -/
import Derived.Test.YtodiffgpefidoaaGreatDoorG0
import Derived.Test.YtodiffgpefidoaaGreatDoorGRef2
namespace Go.Proofs.YtodiffgpefidoaaGreatDoor.P
open Go.RowKit Go.Proofs.YtodiffgpefidoaaGreatDoorW.PrintWords Go.Proofs.YtodiffgpefidoaaGreatDoorW.PrintLast Go.Proofs.YtodiffgpefidoaaGreatDoorW.PrintMore
attribute [local go_sem] max2_int min2_int max_two min_two max_three min_three max_four min_four
set_option linter.unusedVariables false
set_option linter.unusedSimpArgs false
mutual
def letterlockref3_many.j0 : Nat → Int → Bool → Option (Int)
 | 0, _, _ => none
 | k + 1, x3, x4 => if x4 = true then (some 0) else (if x3 = 104 then (letterlockref3_many.j1 k x3 (x3 == 104)) else (letterlockref3_many.j1 k x3 (x3 == 117)))
def letterlockref3_many.j1 : Nat → Int → Bool → Option (Int)
 | 0, _, _ => none
 | k + 1, x3, x7 => if x7 = true then (some 1) else (if x3 = 112 then (some 2) else (if x3 = 115 then (some 2) else (if x3 = 98 then (some 2) else (if x3 = 103 then (some 2) else (some (-1))))))
end
def letterlockref3_many.f (k : Nat) (a0 : Int) : Option (Int) := if a0 = 97 then (letterlockref3_many.j0 k a0 (a0 == 97)) else (letterlockref3_many.j0 k a0 (a0 == 116))
theorem letterlockref3_many.mono_l : ∀ k, (∀ y0 y1, LeO (letterlockref3_many.j0 k y0 y1) (letterlockref3_many.j0 (k + 1) y0 y1)) ∧ (∀ y0 y1, LeO (letterlockref3_many.j1 k y0 y1) (letterlockref3_many.j1 (k + 1) y0 y1))
 | 0 => ⟨fun _ _ r h => by simp [letterlockref3_many.j0] at h, fun _ _ r h => by simp [letterlockref3_many.j1] at h⟩
 | k + 1 => by
  obtain ⟨ih0, ih1⟩ := letterlockref3_many.mono_l k
  refine ⟨?_, ?_⟩
  ·intro y0 y1
   unfold letterlockref3_many.j0
   repeat' first
   | (with_reducible exact ih0 _ _)
   | (with_reducible exact ih1 _ _)
   | (with_reducible exact LeO.refl _)
   | (with_reducible exact LeO.none _)
   | (with_reducible refine LeO.ite ?_ ?_)
   | (with_reducible refine LeO.bind ?_ (fun _ => ?_))
   | exact ih0 _ _
   | exact ih1 _ _
   | exact LeO.none _
   | refine LeO.ite ?_ ?_
   | refine LeO.bind ?_ (fun _ => ?_)
  ·intro y0 y1
   unfold letterlockref3_many.j1
   repeat' first
   | (with_reducible exact ih0 _ _)
   | (with_reducible exact ih1 _ _)
   | (with_reducible exact LeO.refl _)
   | (with_reducible exact LeO.none _)
   | (with_reducible refine LeO.ite ?_ ?_)
   | (with_reducible refine LeO.bind ?_ (fun _ => ?_))
   | exact ih0 _ _
   | exact ih1 _ _
   | exact LeO.none _
   | refine LeO.ite ?_ ?_
   | refine LeO.bind ?_ (fun _ => ?_)
theorem letterlockref3_many.mono : ∀ a0 k, LeO (letterlockref3_many.f k a0) (letterlockref3_many.f (k + 1) a0) := by
 intro a0 k
 obtain ⟨ih0, ih1⟩ := letterlockref3_many.mono_l k
 unfold letterlockref3_many.f
 repeat' first
   | (with_reducible exact ih0 _ _)
   | (with_reducible exact ih1 _ _)
   | (with_reducible exact LeO.refl _)
   | (with_reducible exact LeO.none _)
   | (with_reducible refine LeO.ite ?_ ?_)
   | (with_reducible refine LeO.bind ?_ (fun _ => ?_))
   | exact ih0 _ _
   | exact ih1 _ _
   | exact LeO.none _
   | refine LeO.ite ?_ ?_
   | refine LeO.bind ?_ (fun _ => ?_)
set_option maxHeartbeats 8000000 in
set_option maxRecDepth 100000 in
theorem letterlockref3_many.calls (k : Nat) (a0 : Int) (r : Int) (w : World) (h : letterlockref3_many.f k a0 = some r) :
  Calls Tryz.prog 90 #[.int .u8 a0] w fun e w' => e = .returned (.int .i64 r) ∧ Drawn0 w w' := by
 unfold letterlockref3_many.f at h
 have H := h
 clear h
 have HC2 := Aside0.mk H
 clear H
 go_enter Tryz.func90, Tryz.ntmps90
 go_upto_if 4 with (fail)
 go_cut [4] (fun v4 wc => ∃ (kq : Nat) (x4_1 : Bool), v4 = .bool x4_1 ∧ Aside0 (letterlockref3_many.j0 kq a0 x4_1 = some r) ∧ Aside0 (kq ≤ k) ∧ Drawn0 w wc)
 case first =>
  have H := HC2.out
  clear HC2
  by_cases c3 : a0 = 97
  ·rw [if_pos c3] at H
   have c3b0 : (a0 == 97) = true := beq_iff_eq.mpr c3
   have c3b1 : (a0 != 97) = false := bne_eq_false_iff_eq.mpr c3
   clear c3
   (first | rw [c3b0] | (simp only [i64_w, i32_w]; rw [c3b0]) | rw [c3b1] | skip)
   have H' := Aside0.mk H
   clear H
   go_wp2
   go_meet
   case rel => exact ⟨_, ((a0 == 97)), es_, H', ⟨by first | omega | exact Nat.le_refl _⟩, by repeat (first | exact Drawn0.refl _ | apply Drawn0.step)⟩
  ·rw [if_neg c3] at H
   have c3b0 : (a0 == 97) = false := beq_eq_false_iff_ne.mpr c3
   have c3b1 : (a0 != 97) = true := bne_iff_ne.mpr c3
   (first | rw [c3b0] | (simp only [i64_w, i32_w]; rw [c3b0]) | rw [c3b1] | skip)
   have H' := Aside0.mk H
   clear H
   go_wp2
   go_meet
   case rel => exact ⟨_, ((a0 == 116)), es_, H', ⟨by first | omega | exact Nat.le_refl _⟩, by repeat (first | exact Drawn0.refl _ | apply Drawn0.step)⟩
 case rest =>
  clear HC2
  try clear p2
  try clear c3
  try clear c3b0
  try clear c3b1
  obtain ⟨kq, x4_1, rfl, HA, HJ1, ⟨mc1, rfl⟩⟩ := hcut
  cases kq with
  | zero => exact absurd HA.out (by simp [letterlockref3_many.j0])
  | succ kj1 =>
   have H := HA.out
   clear HA
   simp only [letterlockref3_many.j0] at H
   by_cases c4 : x4_1 = true
   ·subst c4
    rw [if_pos rfl] at H
    obtain rfl := Option.some.inj H
    go_wp2
    go_ret
    exact ⟨by first | rfl | (simp; done) | (simp [*]; done), by repeat (first | exact Drawn0.refl _ | apply Drawn0.step)⟩
   ·replace c4 := Bool.eq_false_iff.mpr c4
    subst c4
    rw [if_neg (show ¬ (false = true) by decide)] at H
    have HC5 := Aside0.mk H
    clear H
    go_upto_if 7 with (fail)
    go_cut [7] (fun v7 wc => ∃ (kq : Nat) (x7_4 : Bool), v7 = .bool x7_4 ∧ Aside0 (letterlockref3_many.j1 kq a0 x7_4 = some r) ∧ Aside0 (kq ≤ kj1) ∧ Drawn0 w wc)
    case first =>
     have H := HC5.out
     clear HC5
     by_cases c6 : a0 = 104
     ·rw [if_pos c6] at H
      have c6b0 : (a0 == 104) = true := beq_iff_eq.mpr c6
      have c6b1 : (a0 != 104) = false := bne_eq_false_iff_eq.mpr c6
      clear c6
      (first | rw [c6b0] | (simp only [i64_w, i32_w]; rw [c6b0]) | rw [c6b1] | skip)
      have H' := Aside0.mk H
      clear H
      go_wp2
      go_meet
      case rel => exact ⟨_, ((a0 == 104)), es_, H', ⟨by have := HJ1.out; first | omega | exact Nat.le_refl _⟩, by repeat (first | exact Drawn0.refl _ | apply Drawn0.step)⟩
     ·rw [if_neg c6] at H
      have c6b0 : (a0 == 104) = false := beq_eq_false_iff_ne.mpr c6
      have c6b1 : (a0 != 104) = true := bne_iff_ne.mpr c6
      (first | rw [c6b0] | (simp only [i64_w, i32_w]; rw [c6b0]) | rw [c6b1] | skip)
      have H' := Aside0.mk H
      clear H
      go_wp2
      go_meet
      case rel => exact ⟨_, ((a0 == 117)), es_, H', ⟨by have := HJ1.out; first | omega | exact Nat.le_refl _⟩, by repeat (first | exact Drawn0.refl _ | apply Drawn0.step)⟩
    case rest =>
     clear HC5
     try clear c1
     try clear p2
     try clear c3
     try clear c3b0
     try clear c3b1
     try clear c4
     try clear c6
     try clear c6b0
     try clear c6b1
     try clear p2
     obtain ⟨kq, x7_4, rfl, HA, HJ4, ⟨mc4, rfl⟩⟩ := hcut
     cases kq with
     | zero => exact absurd HA.out (by simp [letterlockref3_many.j1])
     | succ kj4 =>
      have H := HA.out
      clear HA
      simp only [letterlockref3_many.j1] at H
      by_cases c7 : x7_4 = true
      ·subst c7
       rw [if_pos rfl] at H
       obtain rfl := Option.some.inj H
       go_wp2
       go_ret
       exact ⟨by first | rfl | (simp; done) | (simp [*]; done), by repeat (first | exact Drawn0.refl _ | apply Drawn0.step)⟩
      ·replace c7 := Bool.eq_false_iff.mpr c7
       subst c7
       rw [if_neg (show ¬ (false = true) by decide)] at H
       by_cases c8 : a0 = 112
       ·rw [if_pos c8] at H
        have c8b0 : (a0 == 112) = true := beq_iff_eq.mpr c8
        have c8b1 : (a0 != 112) = false := bne_eq_false_iff_eq.mpr c8
        clear c8
        obtain rfl := Option.some.inj H
        go_wp2
        go_ret
        exact ⟨by first | rfl | (simp; done) | (simp [*]; done), by repeat (first | exact Drawn0.refl _ | apply Drawn0.step)⟩
       ·rw [if_neg c8] at H
        have c8b0 : (a0 == 112) = false := beq_eq_false_iff_ne.mpr c8
        have c8b1 : (a0 != 112) = true := bne_iff_ne.mpr c8
        by_cases c9 : a0 = 115
        ·rw [if_pos c9] at H
         have c9b0 : (a0 == 115) = true := beq_iff_eq.mpr c9
         have c9b1 : (a0 != 115) = false := bne_eq_false_iff_eq.mpr c9
         clear c9
         obtain rfl := Option.some.inj H
         go_wp2
         go_ret
         exact ⟨by first | rfl | (simp; done) | (simp [*]; done), by repeat (first | exact Drawn0.refl _ | apply Drawn0.step)⟩
        ·rw [if_neg c9] at H
         have c9b0 : (a0 == 115) = false := beq_eq_false_iff_ne.mpr c9
         have c9b1 : (a0 != 115) = true := bne_iff_ne.mpr c9
         by_cases c10 : a0 = 98
         ·rw [if_pos c10] at H
          have c10b0 : (a0 == 98) = true := beq_iff_eq.mpr c10
          have c10b1 : (a0 != 98) = false := bne_eq_false_iff_eq.mpr c10
          clear c10
          obtain rfl := Option.some.inj H
          go_wp2
          go_ret
          exact ⟨by first | rfl | (simp; done) | (simp [*]; done), by repeat (first | exact Drawn0.refl _ | apply Drawn0.step)⟩
         ·rw [if_neg c10] at H
          have c10b0 : (a0 == 98) = false := beq_eq_false_iff_ne.mpr c10
          have c10b1 : (a0 != 98) = true := bne_iff_ne.mpr c10
          by_cases c11 : a0 = 103
          ·rw [if_pos c11] at H
           have c11b0 : (a0 == 103) = true := beq_iff_eq.mpr c11
           have c11b1 : (a0 != 103) = false := bne_eq_false_iff_eq.mpr c11
           clear c11
           obtain rfl := Option.some.inj H
           go_wp2
           go_ret
           exact ⟨by first | rfl | (simp; done) | (simp [*]; done), by repeat (first | exact Drawn0.refl _ | apply Drawn0.step)⟩
          ·rw [if_neg c11] at H
           have c11b0 : (a0 == 103) = false := beq_eq_false_iff_ne.mpr c11
           have c11b1 : (a0 != 103) = true := bne_iff_ne.mpr c11
           obtain rfl := Option.some.inj H
           go_wp2
           go_ret
           exact ⟨by first | rfl | (simp; done) | (simp [*]; done), by repeat (first | exact Drawn0.refl _ | apply Drawn0.step)⟩
mutual
def letterlockref3_size.j0 : Nat → ByteArray → Int → Bool → Option (Int)
 | 0, _, _, _ => none
 | k + 1, x0, x1, x22 => if x22 = true then (some 0) else (if 0 < (x0.size : Int) then (if (bt x0 0) = 97 then (letterlockref3_size.j1 k x0 x1 true) else (letterlockref3_size.j1 k x0 x1 ((bt x0 0) == 116))) else (none))
def letterlockref3_size.j1 : Nat → ByteArray → Int → Bool → Option (Int)
 | 0, _, _, _ => none
 | k + 1, x0, x1, x30 => if x30 = true then (if 1 ≤ (x0.size : Int) then ((letterlockref2_Take.f k (x0.extract 1 x0.size)).bind fun bt237 => (if 0 < (x0.size : Int) then (if (bt x0 0) = 116 then ((letterlockref2_TakeText.f k (x0.extract 1 x0.size) 4000).bind fun bt240 => (if bt240.2.2 = 0 then (some (wrap64 ((x0.size : Int) - (bt240.2.1.size : Int)))) else (some 0))) else (if bt237.2.2 = 0 then (some (wrap64 ((x0.size : Int) - (bt237.2.1.size : Int)))) else (some 0))) else (none))) else (none)) else (letterlockref3_size.l0 k x0 x1 1 0)
def letterlockref3_size.l0 : Nat → ByteArray → Int → Int → Int → Option (Int)
 | 0, _, _, _, _ => none
 | k + 1, x0, x1, x8, x9 => if 0 < (x0.size : Int) then ((letterlockref3_many.f k (bt x0 0)).bind fun t243 => (if x9 < t243 then (if (bt x0 0) = 98 then (if x9 = 0 then (if x8 ≥ (x0.size : Int) then (letterlockref3_size.j3 k x0 x1 x8 x9 true) else (if 0 ≤ x8 then (if x8 < (x0.size : Int) then (letterlockref3_size.j3 k x0 x1 x8 x9 ((bt x0 x8) != 117)) else (none)) else (none))) else (letterlockref3_size.j3 k x0 x1 x8 x9 false)) else (letterlockref3_size.j3 k x0 x1 x8 x9 false)) else (some x8))) else (none)
def letterlockref3_size.j3 : Nat → ByteArray → Int → Int → Int → Bool → Option (Int)
 | 0, _, _, _, _, _ => none
 | k + 1, x0, x1, x8, x9, x80 => if x80 = true then (some 0) else (if 0 ≤ x8 then (if x8 ≤ (x0.size : Int) then ((letterlockref3_size.f k (x0.extract (x8 : Int).toNat x0.size) (wrap64 (x1 - 1))).bind fun t244 => (if t244 = 0 then (some 0) else (letterlockref3_size.l0 k x0 x1 (wrap64 (x8 + t244)) (wrap64 (x9 + 1))))) else (none)) else (none))
def letterlockref3_size.f : Nat → ByteArray → Int → Option (Int)
 | 0, _, _ => none
 | k + 1, a0, a1 => if a0.toList = ([] : List UInt8) then (letterlockref3_size.j0 k a0 a1 true) else (if a1 = 0 then (letterlockref3_size.j0 k a0 a1 true) else (if 0 < (a0.size : Int) then ((letterlockref3_many.f k (bt a0 0)).bind fun t236 => (letterlockref3_size.j0 k a0 a1 (decide (t236 < 0)))) else (none)))
end
set_option maxHeartbeats 8000000 in
set_option maxRecDepth 100000 in
theorem letterlockref3_size.calls (k : Nat) : ∀ (a0 : ByteArray) (a1 : Int) (r : Int) (w : World) (h : letterlockref3_size.f k a0 a1 = some r),
  Calls Tryz.prog 59 #[.string a0, .int .i64 a1] w fun e w' => e = .returned (.int .i64 r) ∧ Below w.heap.size w w' := by
 induction k using Nat.strongRecOn with
 | _ k ih =>
 intro a0 a1 r w h
 cases k with
 | zero => exact absurd h (by simp [letterlockref3_size.f])
 | succ k =>
 simp only [letterlockref3_size.f] at h
 have HB := Aside0.mk (Below.refl w.heap.size w)
 have H : (if a0.toList = ([] : List UInt8) then (letterlockref3_size.j0 k a0 a1 true) else (if a1 = 0 then (letterlockref3_size.j0 k a0 a1 true) else (if 0 < (a0.size : Int) then ((letterlockref3_many.f k (bt a0 0)).bind fun t236 => (letterlockref3_size.j0 k a0 a1 (decide (t236 < 0)))) else (none)))) = some r := h
 clear h
 have HC3 := Aside0.mk H
 clear H
 go_enter Tryz.func59, Tryz.ntmps59
 go_upto_region 1 with (fail)
 go_cut [22] (fun v22 wc => ∃ (kq : Nat) (x22_2 : Bool), v22 = .bool x22_2 ∧ Aside0 (letterlockref3_size.j0 kq a0 a1 x22_2 = some r) ∧ Aside0 (kq ≤ k) ∧ Aside0 (Below w.heap.size w wc))
 case first =>
  have H := HC3.out
  clear HC3
  by_cases c4 : a0.toList = ([] : List UInt8)
  ·rw [if_pos c4] at H
   have c4b0 : (a0.toList == ([] : List UInt8)) = true := beq_iff_eq.mpr c4
   have c4b1 : (a0.toList != ([] : List UInt8)) = false := bne_eq_false_iff_eq.mpr c4
   clear c4
   (first | rw [c4b0] | (simp only [i64_w, i32_w]; rw [c4b0]) | rw [c4b1] | skip)
   have H' := Aside0.mk H
   clear H
   go_wp2
   go_meet
   case rel => exact ⟨_, (true), es_, H', ⟨by first | omega | exact Nat.le_refl _⟩, ⟨bl_⟩⟩
  ·rw [if_neg c4] at H
   have c4b0 : (a0.toList == ([] : List UInt8)) = false := beq_eq_false_iff_ne.mpr c4
   have c4b1 : (a0.toList != ([] : List UInt8)) = true := bne_iff_ne.mpr c4
   (first | rw [c4b0] | (simp only [i64_w, i32_w]; rw [c4b0]) | rw [c4b1] | skip)
   by_cases c5 : a1 = 0
   ·rw [if_pos c5] at H
    have c5b0 : (a1 == 0) = true := beq_iff_eq.mpr c5
    have c5b1 : (a1 != 0) = false := bne_eq_false_iff_eq.mpr c5
    clear c5
    have H' := Aside0.mk H
    clear H
    go_wp2
    go_meet
    case rel => exact ⟨_, (true), es_, H', ⟨by first | omega | exact Nat.le_refl _⟩, ⟨bl_⟩⟩
   ·rw [if_neg c5] at H
    have c5b0 : (a1 == 0) = false := beq_eq_false_iff_ne.mpr c5
    have c5b1 : (a1 != 0) = true := bne_iff_ne.mpr c5
    by_cases c6 : 0 < (a0.size : Int)
    ·rw [if_pos c6] at H
     have c6b0 : decide (0 < (a0.size : Int)) = true := decide_eq_true c6
     have c6b1 : decide (0 < a0.size) = true := decide_eq_true (by omega)
     clear c6
     replace H := Option.bind_eq_some_iff.mp H
     obtain ⟨t236, A80, H⟩ := H
     try dsimp only at H
     have A8 := Aside0.mk A80
     clear A80
     have H' := Aside0.mk H
     clear H
     have p7 : 0 ≤ (0 : Int) := (by omega)
     have q7 : 0 < a0.size := (by have : (0 : Int) < (a0.size : Int) := of_decide_eq_true (by first | (with_reducible assumption) | assumption); omega)
     have hx7 : ∀ h : 0 < a0.size, ((a0[0]'h).toNat : Int) = bt a0 0 := bt_at a0 0
     clear p7
     have qi7 : (0 < (a0.size : Int)) = True := eq_true (of_decide_eq_true (by first | (with_reducible assumption) | assumption))
     replace q7 := eq_true q7
     go_wp2_with (first | (go_at_call 90; (with_reducible refine (letterlockref3_many.calls k (bt a0 0) t236 _ A8.out).mono ?_); rintro e w' ⟨rfl, ⟨nd, rfl⟩⟩))
     go_meet
     case rel => exact ⟨_, (decide (t236 < 0)), es_, H', ⟨by first | omega | exact Nat.le_refl _⟩, ⟨bl_⟩⟩
    ·rw [if_neg c6] at H
     exact absurd H (by simp)
 case rest =>
  clear HC3
  try clear p2
  try clear c4
  try clear c4b0
  try clear c4b1
  try clear c5
  try clear c5b0
  try clear c5b1
  try clear c6
  try clear c6b0
  try clear c6b1
  try clear p7
  try clear q7
  try clear hx7
  try clear qi7
  try clear p7
  try clear q7
  obtain ⟨kq, x22_2, rfl, HA, HJ2, HB⟩ := hcut
  cases kq with
  | zero => exact absurd HA.out (by simp [letterlockref3_size.j0])
  | succ kj2 =>
   have H := HA.out
   clear HA
   simp only [letterlockref3_size.j0] at H
   by_cases c9 : x22_2 = true
   ·subst c9
    rw [if_pos rfl] at H
    obtain rfl := Option.some.inj H
    go_wp2
    go_ret
    exact ⟨eq_, bl_⟩
   ·replace c9 := Bool.eq_false_iff.mpr c9
    subst c9
    rw [if_neg (show ¬ (false = true) by decide)] at H
    have HC10 := Aside0.mk H
    clear H
    go_upto_region 3 with (fail)
    go_cut [30] (fun v30 wc => ∃ (kq : Nat) (x30_9 : Bool), v30 = .bool x30_9 ∧ Aside0 (letterlockref3_size.j1 kq a0 a1 x30_9 = some r) ∧ Aside0 (kq ≤ kj2) ∧ Aside0 (Below w.heap.size w wc))
    case first =>
     have H := HC10.out
     clear HC10
     by_cases c11 : 0 < (a0.size : Int)
     ·rw [if_pos c11] at H
      have c11b0 : decide (0 < (a0.size : Int)) = true := decide_eq_true c11
      have c11b1 : decide (0 < a0.size) = true := decide_eq_true (by omega)
      clear c11
      (first | rw [c11b0] | (simp only [i64_w, i32_w]; rw [c11b0]) | rw [c11b1] | skip)
      by_cases c13 : (bt a0 0) = 97
      ·rw [if_pos c13] at H
       have c13b0 : ((bt a0 0) == 97) = true := beq_iff_eq.mpr c13
       have c13b1 : ((bt a0 0) != 97) = false := bne_eq_false_iff_eq.mpr c13
       clear c13
       have H' := Aside0.mk H
       clear H
       have p12 : 0 ≤ (0 : Int) := (by omega)
       have q12 : 0 < a0.size := (by have : (0 : Int) < (a0.size : Int) := of_decide_eq_true (by first | (with_reducible assumption) | assumption); omega)
       have hx12 : ∀ h : 0 < a0.size, ((a0[0]'h).toNat : Int) = bt a0 0 := bt_at a0 0
       clear p12
       have qi12 : (0 < (a0.size : Int)) = True := eq_true (of_decide_eq_true (by first | (with_reducible assumption) | assumption))
       replace q12 := eq_true q12
       go_wp2
       go_meet
       case rel => exact ⟨_, (true), es_, H', ⟨by have := HJ2.out; first | omega | exact Nat.le_refl _⟩, ⟨bl_⟩⟩
      ·rw [if_neg c13] at H
       have c13b0 : ((bt a0 0) == 97) = false := beq_eq_false_iff_ne.mpr c13
       have c13b1 : ((bt a0 0) != 97) = true := bne_iff_ne.mpr c13
       have H' := Aside0.mk H
       clear H
       have p12 : 0 ≤ (0 : Int) := (by omega)
       have q12 : 0 < a0.size := (by have : (0 : Int) < (a0.size : Int) := of_decide_eq_true (by first | (with_reducible assumption) | assumption); omega)
       have hx12 : ∀ h : 0 < a0.size, ((a0[0]'h).toNat : Int) = bt a0 0 := bt_at a0 0
       clear p12
       have qi12 : (0 < (a0.size : Int)) = True := eq_true (of_decide_eq_true (by first | (with_reducible assumption) | assumption))
       replace q12 := eq_true q12
       have p14 : 0 ≤ (0 : Int) := (by omega)
       have q14 : 0 < a0.size := (by have : (0 : Int) < (a0.size : Int) := of_decide_eq_true (by first | (with_reducible assumption) | assumption); omega)
       have hx14 : ∀ h : 0 < a0.size, ((a0[0]'h).toNat : Int) = bt a0 0 := bt_at a0 0
       clear p14
       have qi14 : (0 < (a0.size : Int)) = True := eq_true (of_decide_eq_true (by first | (with_reducible assumption) | assumption))
       replace q14 := eq_true q14
       go_wp2
       go_meet
       case rel => exact ⟨_, (((bt a0 0) == 116)), es_, H', ⟨by have := HJ2.out; first | omega | exact Nat.le_refl _⟩, ⟨bl_⟩⟩
     ·rw [if_neg c11] at H
      exact absurd H (by simp)
    case rest =>
     clear HC10
     try clear c1
     try clear p1
     try clear q1
     try clear hx1
     try clear qi1
     try clear p2
     try clear c4
     try clear c4b0
     try clear c4b1
     try clear c5
     try clear c5b0
     try clear c5b1
     try clear c6
     try clear c6b0
     try clear c6b1
     try clear p7
     try clear q7
     try clear hx7
     try clear qi7
     try clear c9
     try clear c11
     try clear c11b0
     try clear c11b1
     try clear p12
     try clear q12
     try clear hx12
     try clear qi12
     try clear c13
     try clear c13b0
     try clear c13b1
     try clear p14
     try clear q14
     try clear hx14
     try clear qi14
     try clear p12
     try clear p14
     try clear p2
     try clear p7
     try clear q12
     try clear q14
     try clear q7
     obtain ⟨kq, x30_9, rfl, HA, HJ9, HB⟩ := hcut
     cases kq with
     | zero => exact absurd HA.out (by simp [letterlockref3_size.j1])
     | succ kj9 =>
      have H := HA.out
      clear HA
      simp only [letterlockref3_size.j1] at H
      by_cases c15 : x30_9 = true
      ·subst c15
       rw [if_pos rfl] at H
       by_cases c16 : 1 ≤ (a0.size : Int)
       ·rw [if_pos c16] at H
        have c16b0 := eq_true c16
        have c16b1 : decide (1 ≤ (a0.size : Int)) = true := decide_eq_true c16
        clear c16
        replace H := Option.bind_eq_some_iff.mp H
        obtain ⟨⟨t237, t238, t239⟩, A170, H⟩ := H
        try dsimp only at H
        have A17 := Aside0.mk A170
        clear A170
        by_cases c18 : 0 < (a0.size : Int)
        ·rw [if_pos c18] at H
         have c18b0 : decide (0 < (a0.size : Int)) = true := decide_eq_true c18
         have c18b1 : decide (0 < a0.size) = true := decide_eq_true (by omega)
         clear c18
         by_cases c20 : (bt a0 0) = 116
         ·rw [if_pos c20] at H
          have c20b0 : ((bt a0 0) == 116) = true := beq_iff_eq.mpr c20
          have c20b1 : ((bt a0 0) != 116) = false := bne_eq_false_iff_eq.mpr c20
          clear c20
          have c21b0 := eq_true (of_decide_eq_true (by first | (with_reducible assumption) | assumption) : 1 ≤ (a0.size : Int))
          replace H := Option.bind_eq_some_iff.mp H
          obtain ⟨⟨t240, t241, t242⟩, A220, H⟩ := H
          try dsimp only at H
          have A22 := Aside0.mk A220
          clear A220
          by_cases c23 : t242 = 0
          ·rw [if_pos c23] at H
           have c23b0 : (t242 == 0) = true := beq_iff_eq.mpr c23
           have c23b1 : (t242 != 0) = false := bne_eq_false_iff_eq.mpr c23
           clear c23
           obtain rfl := Option.some.inj H
           go_wp2_with (first | ((with_reducible refine gate_callee (f := 40) rfl ?_); refine gL (some 34) Tryz.func40 #[.string (a0.extract 1 a0.size)] rfl ?_; (with_reducible refine (letterlockref2_Take.calls kj9 (a0.extract 1 a0.size) t237 t238 t239 _ A17.out).mono ?_); rintro e w' ⟨rfl, ⟨nd, rfl⟩⟩; refine ⟨_, rfl, ?_⟩; have p19 : 0 ≤ (0 : Int) := (by omega); have q19 : 0 < a0.size := (by have : (0 : Int) < (a0.size : Int) := of_decide_eq_true (by first | (with_reducible assumption) | assumption); omega); have hx19 : ∀ h : 0 < a0.size, ((a0[0]'h).toNat : Int) = bt a0 0 := bt_at a0 0; clear p19; have qi19 : (0 < (a0.size : Int)) = True := eq_true (of_decide_eq_true (by first | (with_reducible assumption) | assumption)); replace q19 := eq_true q19) | ((with_reducible refine gate_callee (f := 74) rfl ?_); refine gL (some 44) Tryz.func74 #[.string (a0.extract 1 a0.size), .int .i64 4000] rfl ?_; (with_reducible refine (letterlockref2_TakeText.calls kj9 (a0.extract 1 a0.size) 4000 t240 t241 t242 _ A22.out).mono ?_); rintro e w24 ⟨rfl, hb⟩; refine ⟨_, rfl, ?_⟩; have n0_ := Aside0.mk (below_step bl_ hb); clear HB; have HB := n0_; clear n0_; (try clear hb)))
           go_ret
           exact ⟨eq_, bl_⟩
          ·rw [if_neg c23] at H
           have c23b0 : (t242 == 0) = false := beq_eq_false_iff_ne.mpr c23
           have c23b1 : (t242 != 0) = true := bne_iff_ne.mpr c23
           obtain rfl := Option.some.inj H
           go_wp2_with (first | ((with_reducible refine gate_callee (f := 40) rfl ?_); refine gL (some 34) Tryz.func40 #[.string (a0.extract 1 a0.size)] rfl ?_; (with_reducible refine (letterlockref2_Take.calls kj9 (a0.extract 1 a0.size) t237 t238 t239 _ A17.out).mono ?_); rintro e w' ⟨rfl, ⟨nd, rfl⟩⟩; refine ⟨_, rfl, ?_⟩; have p19 : 0 ≤ (0 : Int) := (by omega); have q19 : 0 < a0.size := (by have : (0 : Int) < (a0.size : Int) := of_decide_eq_true (by first | (with_reducible assumption) | assumption); omega); have hx19 : ∀ h : 0 < a0.size, ((a0[0]'h).toNat : Int) = bt a0 0 := bt_at a0 0; clear p19; have qi19 : (0 < (a0.size : Int)) = True := eq_true (of_decide_eq_true (by first | (with_reducible assumption) | assumption)); replace q19 := eq_true q19) | ((with_reducible refine gate_callee (f := 74) rfl ?_); refine gL (some 44) Tryz.func74 #[.string (a0.extract 1 a0.size), .int .i64 4000] rfl ?_; (with_reducible refine (letterlockref2_TakeText.calls kj9 (a0.extract 1 a0.size) 4000 t240 t241 t242 _ A22.out).mono ?_); rintro e w25 ⟨rfl, hb⟩; refine ⟨_, rfl, ?_⟩; have n0_ := Aside0.mk (below_step bl_ hb); clear HB; have HB := n0_; clear n0_; (try clear hb)))
           go_ret
           exact ⟨eq_, bl_⟩
         ·rw [if_neg c20] at H
          have c20b0 : ((bt a0 0) == 116) = false := beq_eq_false_iff_ne.mpr c20
          have c20b1 : ((bt a0 0) != 116) = true := bne_iff_ne.mpr c20
          by_cases c26 : t239 = 0
          ·rw [if_pos c26] at H
           have c26b0 : (t239 == 0) = true := beq_iff_eq.mpr c26
           have c26b1 : (t239 != 0) = false := bne_eq_false_iff_eq.mpr c26
           clear c26
           obtain rfl := Option.some.inj H
           go_wp2_with (first | ((with_reducible refine gate_callee (f := 40) rfl ?_); refine gL (some 34) Tryz.func40 #[.string (a0.extract 1 a0.size)] rfl ?_; (with_reducible refine (letterlockref2_Take.calls kj9 (a0.extract 1 a0.size) t237 t238 t239 _ A17.out).mono ?_); rintro e w' ⟨rfl, ⟨nd, rfl⟩⟩; refine ⟨_, rfl, ?_⟩; have p19 : 0 ≤ (0 : Int) := (by omega); have q19 : 0 < a0.size := (by have : (0 : Int) < (a0.size : Int) := of_decide_eq_true (by first | (with_reducible assumption) | assumption); omega); have hx19 : ∀ h : 0 < a0.size, ((a0[0]'h).toNat : Int) = bt a0 0 := bt_at a0 0; clear p19; have qi19 : (0 < (a0.size : Int)) = True := eq_true (of_decide_eq_true (by first | (with_reducible assumption) | assumption)); replace q19 := eq_true q19))
           go_ret
           exact ⟨eq_, bl_⟩
          ·rw [if_neg c26] at H
           have c26b0 : (t239 == 0) = false := beq_eq_false_iff_ne.mpr c26
           have c26b1 : (t239 != 0) = true := bne_iff_ne.mpr c26
           obtain rfl := Option.some.inj H
           go_wp2_with (first | ((with_reducible refine gate_callee (f := 40) rfl ?_); refine gL (some 34) Tryz.func40 #[.string (a0.extract 1 a0.size)] rfl ?_; (with_reducible refine (letterlockref2_Take.calls kj9 (a0.extract 1 a0.size) t237 t238 t239 _ A17.out).mono ?_); rintro e w' ⟨rfl, ⟨nd, rfl⟩⟩; refine ⟨_, rfl, ?_⟩; have p19 : 0 ≤ (0 : Int) := (by omega); have q19 : 0 < a0.size := (by have : (0 : Int) < (a0.size : Int) := of_decide_eq_true (by first | (with_reducible assumption) | assumption); omega); have hx19 : ∀ h : 0 < a0.size, ((a0[0]'h).toNat : Int) = bt a0 0 := bt_at a0 0; clear p19; have qi19 : (0 < (a0.size : Int)) = True := eq_true (of_decide_eq_true (by first | (with_reducible assumption) | assumption)); replace q19 := eq_true q19))
           go_ret
           exact ⟨eq_, bl_⟩
        ·rw [if_neg c18] at H
         exact absurd H (by simp)
       ·rw [if_neg c16] at H
        exact absurd H (by simp)
      ·replace c15 := Bool.eq_false_iff.mpr c15
       subst c15
       rw [if_neg (show ¬ (false = true) by decide)] at H
       have H' := Aside0.mk H
       clear H
       go_wp2
       go_loopg [8, 9] kj9 (fun kq v8 v9 w' => ∃ (x8_3 : Int) (x9_3 : Int), v8 = .int .i64 x8_3 ∧ v9 = .int .i64 x9_3 ∧ Aside0 (letterlockref3_size.l0 kq a0 a1 x8_3 x9_3 = some r) ∧ Aside0 (kq ≤ kj9) ∧ Aside0 (Below w.heap.size w w'))
       case atStart => exact ⟨(1), (0), es_, es_, H', ⟨Nat.le_refl _⟩, ⟨bl_⟩⟩
       case round =>
        clear H'
        try clear c1
        try clear p1
        try clear q1
        try clear hx1
        try clear qi1
        try clear c2
        try clear p2
        try clear c4
        try clear c4b0
        try clear c4b1
        try clear c5
        try clear c5b0
        try clear c5b1
        try clear c6
        try clear c6b0
        try clear c6b1
        try clear p6
        try clear c7
        try clear p7
        try clear q7
        try clear hx7
        try clear qi7
        try clear c9
        try clear c11
        try clear c11b0
        try clear c11b1
        try clear p12
        try clear q12
        try clear hx12
        try clear qi12
        try clear c13
        try clear c13b0
        try clear c13b1
        try clear p14
        try clear q14
        try clear hx14
        try clear qi14
        try clear c15
        try clear c16
        try clear c16b0
        try clear c16b1
        try clear c18
        try clear c18b0
        try clear c18b1
        try clear p19
        try clear q19
        try clear hx19
        try clear qi19
        try clear c20
        try clear c20b0
        try clear c20b1
        try clear c21
        try clear c21b0
        try clear c23
        try clear c23b0
        try clear c23b1
        try clear c26
        try clear c26b0
        try clear c26b1
        try clear p1
        try clear p12
        try clear p14
        try clear p19
        try clear p2
        try clear p7
        try clear q1
        try clear q12
        try clear q14
        try clear q19
        try clear q7
        obtain ⟨x8_3, x9_3, rfl, rfl, HA, HK3, HB⟩ := hrel
        cases gk with
        | zero => exact absurd HA.out (by simp [letterlockref3_size.l0])
        | succ k3 =>
         have H := HA.out
         clear HA
         simp only [letterlockref3_size.l0] at H
         by_cases c27 : 0 < (a0.size : Int)
         ·rw [if_pos c27] at H
          have c27b0 : decide (0 < (a0.size : Int)) = true := decide_eq_true c27
          have c27b1 : decide (0 < a0.size) = true := decide_eq_true (by omega)
          clear c27
          replace H := Option.bind_eq_some_iff.mp H
          obtain ⟨t243, A290, H⟩ := H
          try dsimp only at H
          have A29 := Aside0.mk A290
          clear A290
          by_cases c30 : x9_3 < t243
          ·rw [if_pos c30] at H
           have c30b0 : decide (x9_3 < t243) = true := decide_eq_true c30
           clear c30
           have HC31 := Aside0.mk H
           clear H
           have p28 : 0 ≤ (0 : Int) := (by omega)
           have q28 : 0 < a0.size := (by have : (0 : Int) < (a0.size : Int) := of_decide_eq_true (by first | (with_reducible assumption) | assumption); omega)
           have hx28 : ∀ h : 0 < a0.size, ((a0[0]'h).toNat : Int) = bt a0 0 := bt_at a0 0
           clear p28
           have qi28 : (0 < (a0.size : Int)) = True := eq_true (of_decide_eq_true (by first | (with_reducible assumption) | assumption))
           replace q28 := eq_true q28
           go_upto_region 14 with (first | ((with_reducible refine gate_callee (f := 90) rfl ?_); refine gL (some 58) Tryz.func90 #[.int .u8 (bt a0 0)] rfl ?_; (with_reducible refine (letterlockref3_many.calls k3 (bt a0 0) t243 _ A29.out).mono ?_); rintro e w' ⟨rfl, ⟨nd, rfl⟩⟩; refine ⟨_, rfl, ?_⟩))
           (try simp only [Act.put, List.setIfInBounds_toArray, List.set_cons_zero, List.set_cons_succ])
           go_cut [80] (fun v80 wc => ∃ (kq : Nat) (x80_30 : Bool), v80 = .bool x80_30 ∧ Aside0 (letterlockref3_size.j3 kq a0 a1 x8_3 x9_3 x80_30 = some r) ∧ Aside0 (kq ≤ k3) ∧ Aside0 (Below w.heap.size w wc))
           case first =>
            have H := HC31.out
            clear HC31
            by_cases c33 : (bt a0 0) = 98
            ·rw [if_pos c33] at H
             have c33b0 : ((bt a0 0) == 98) = true := beq_iff_eq.mpr c33
             have c33b1 : ((bt a0 0) != 98) = false := bne_eq_false_iff_eq.mpr c33
             clear c33
             (first | rw [c33b0] | (simp only [i64_w, i32_w]; rw [c33b0]) | rw [c33b1] | skip)
             by_cases c34 : x9_3 = 0
             ·rw [if_pos c34] at H
              have c34b0 : (x9_3 == 0) = true := beq_iff_eq.mpr c34
              have c34b1 : (x9_3 != 0) = false := bne_eq_false_iff_eq.mpr c34
              clear c34
              by_cases c35 : x8_3 ≥ (a0.size : Int)
              ·rw [if_pos c35] at H
               have c35b0 : decide ((a0.size : Int) ≤ x8_3) = true := decide_eq_true c35
               clear c35
               have H' := Aside0.mk H
               clear H
               have p32 : 0 ≤ (0 : Int) := (by omega)
               have q32 : 0 < a0.size := (by have : (0 : Int) < (a0.size : Int) := of_decide_eq_true (by first | (with_reducible assumption) | assumption); omega)
               have hx32 : ∀ h : 0 < a0.size, ((a0[0]'h).toNat : Int) = bt a0 0 := bt_at a0 0
               clear p32
               have qi32 : (0 < (a0.size : Int)) = True := eq_true (of_decide_eq_true (by first | (with_reducible assumption) | assumption))
               replace q32 := eq_true q32
               go_wp2
               go_meet
               case rel => exact ⟨_, (true), es_, H', ⟨by have := HJ2.out; have := HJ9.out; have := HK3.out; first | omega | exact Nat.le_refl _⟩, ⟨bl_⟩⟩
              ·rw [if_neg c35] at H
               have c35b0 : decide ((a0.size : Int) ≤ x8_3) = false := decide_eq_false c35
               clear c35
               by_cases c36 : 0 ≤ x8_3
               ·rw [if_pos c36] at H
                have c36b0 : decide (0 ≤ x8_3) = true := decide_eq_true c36
                clear c36
                by_cases c37 : x8_3 < (a0.size : Int)
                ·rw [if_pos c37] at H
                 have c37b0 : decide (x8_3 < (a0.size : Int)) = true := decide_eq_true c37
                 clear c37
                 have H' := Aside0.mk H
                 clear H
                 have p32 : 0 ≤ (0 : Int) := (by omega)
                 have q32 : 0 < a0.size := (by have : (0 : Int) < (a0.size : Int) := of_decide_eq_true (by first | (with_reducible assumption) | assumption); omega)
                 have hx32 : ∀ h : 0 < a0.size, ((a0[0]'h).toNat : Int) = bt a0 0 := bt_at a0 0
                 clear p32
                 have qi32 : (0 < (a0.size : Int)) = True := eq_true (of_decide_eq_true (by first | (with_reducible assumption) | assumption))
                 replace q32 := eq_true q32
                 have p38 : 0 ≤ (x8_3 : Int) := of_decide_eq_true (by first | (with_reducible assumption) | assumption)
                 have q38 : x8_3 < (a0.size : Int) := of_decide_eq_true (by first | (with_reducible assumption) | assumption)
                 have hx38 := bt_at a0 x8_3
                 replace p38 := eq_true p38
                 replace q38 := eq_true q38
                 go_wp2
                 go_meet
                 case rel => exact ⟨_, (((bt a0 x8_3) != 117)), es_, H', ⟨by have := HJ2.out; have := HJ9.out; have := HK3.out; first | omega | exact Nat.le_refl _⟩, ⟨bl_⟩⟩
                ·rw [if_neg c37] at H
                 exact absurd H (by simp)
               ·rw [if_neg c36] at H
                exact absurd H (by simp)
             ·rw [if_neg c34] at H
              have c34b0 : (x9_3 == 0) = false := beq_eq_false_iff_ne.mpr c34
              have c34b1 : (x9_3 != 0) = true := bne_iff_ne.mpr c34
              have H' := Aside0.mk H
              clear H
              have p32 : 0 ≤ (0 : Int) := (by omega)
              have q32 : 0 < a0.size := (by have : (0 : Int) < (a0.size : Int) := of_decide_eq_true (by first | (with_reducible assumption) | assumption); omega)
              have hx32 : ∀ h : 0 < a0.size, ((a0[0]'h).toNat : Int) = bt a0 0 := bt_at a0 0
              clear p32
              have qi32 : (0 < (a0.size : Int)) = True := eq_true (of_decide_eq_true (by first | (with_reducible assumption) | assumption))
              replace q32 := eq_true q32
              go_wp2
              go_meet
              case rel => exact ⟨_, (false), es_, H', ⟨by have := HJ2.out; have := HJ9.out; have := HK3.out; first | omega | exact Nat.le_refl _⟩, ⟨bl_⟩⟩
            ·rw [if_neg c33] at H
             have c33b0 : ((bt a0 0) == 98) = false := beq_eq_false_iff_ne.mpr c33
             have c33b1 : ((bt a0 0) != 98) = true := bne_iff_ne.mpr c33
             (first | rw [c33b0] | (simp only [i64_w, i32_w]; rw [c33b0]) | rw [c33b1] | skip)
             have H' := Aside0.mk H
             clear H
             have p32 : 0 ≤ (0 : Int) := (by omega)
             have q32 : 0 < a0.size := (by have : (0 : Int) < (a0.size : Int) := of_decide_eq_true (by first | (with_reducible assumption) | assumption); omega)
             have hx32 : ∀ h : 0 < a0.size, ((a0[0]'h).toNat : Int) = bt a0 0 := bt_at a0 0
             clear p32
             have qi32 : (0 < (a0.size : Int)) = True := eq_true (of_decide_eq_true (by first | (with_reducible assumption) | assumption))
             replace q32 := eq_true q32
             go_wp2
             go_meet
             case rel => exact ⟨_, (false), es_, H', ⟨by have := HJ2.out; have := HJ9.out; have := HK3.out; first | omega | exact Nat.le_refl _⟩, ⟨bl_⟩⟩
           case rest =>
            clear HC31
            try clear c1
            try clear p1
            try clear q1
            try clear hx1
            try clear qi1
            try clear c2
            try clear p2
            try clear q2
            try clear hx2
            try clear qi2
            try clear c3
            try clear p3
            try clear q3
            try clear hx3
            try clear qi3
            try clear c4
            try clear c4b0
            try clear c4b1
            try clear c5
            try clear c5b0
            try clear c5b1
            try clear c6
            try clear c6b0
            try clear c6b1
            try clear p6
            try clear c7
            try clear p7
            try clear q7
            try clear hx7
            try clear qi7
            try clear c9
            try clear c11
            try clear c11b0
            try clear c11b1
            try clear p12
            try clear q12
            try clear hx12
            try clear qi12
            try clear c13
            try clear c13b0
            try clear c13b1
            try clear p14
            try clear q14
            try clear hx14
            try clear qi14
            try clear c15
            try clear c16
            try clear c16b0
            try clear c16b1
            try clear c18
            try clear c18b0
            try clear c18b1
            try clear p19
            try clear q19
            try clear hx19
            try clear qi19
            try clear c20
            try clear c20b0
            try clear c20b1
            try clear c21
            try clear c21b0
            try clear c23
            try clear c23b0
            try clear c23b1
            try clear c26
            try clear c26b0
            try clear c26b1
            try clear c27
            try clear c27b0
            try clear c27b1
            try clear p28
            try clear q28
            try clear hx28
            try clear qi28
            try clear c30
            try clear c30b0
            try clear p32
            try clear q32
            try clear hx32
            try clear qi32
            try clear c33
            try clear c33b0
            try clear c33b1
            try clear c34
            try clear c34b0
            try clear c34b1
            try clear c35
            try clear c35b0
            try clear c36
            try clear c36b0
            try clear c37
            try clear c37b0
            try clear p38
            try clear q38
            try clear hx38
            try clear p1
            try clear p12
            try clear p14
            try clear p19
            try clear p2
            try clear p28
            try clear p32
            try clear p38
            try clear p6
            try clear p7
            try clear q1
            try clear q12
            try clear q14
            try clear q19
            try clear q28
            try clear q32
            try clear q38
            try clear q7
            obtain ⟨kq, x80_30, rfl, HA, HJ30, HB⟩ := hcut
            cases kq with
            | zero => exact absurd HA.out (by simp [letterlockref3_size.j3])
            | succ kj30 =>
             have H := HA.out
             clear HA
             simp only [letterlockref3_size.j3] at H
             by_cases c39 : x80_30 = true
             ·subst c39
              rw [if_pos rfl] at H
              obtain rfl := Option.some.inj H
              go_wp2
              go_ret
              exact ⟨eq_, bl_⟩
             ·replace c39 := Bool.eq_false_iff.mpr c39
              subst c39
              rw [if_neg (show ¬ (false = true) by decide)] at H
              by_cases c40 : 0 ≤ x8_3
              ·rw [if_pos c40] at H
               have c40b0 := eq_true c40
               have c40b1 : decide (0 ≤ x8_3) = true := decide_eq_true c40
               clear c40
               by_cases c41 : x8_3 ≤ (a0.size : Int)
               ·rw [if_pos c41] at H
                have c41b0 := eq_true c41
                have c41b1 : decide (x8_3 ≤ (a0.size : Int)) = true := decide_eq_true c41
                clear c41
                replace H := Option.bind_eq_some_iff.mp H
                obtain ⟨t244, A420, H⟩ := H
                try dsimp only at H
                have A42 := Aside0.mk A420
                clear A420
                by_cases c43 : t244 = 0
                ·rw [if_pos c43] at H
                 have c43b0 : (t244 == 0) = true := beq_iff_eq.mpr c43
                 have c43b1 : (t244 != 0) = false := bne_eq_false_iff_eq.mpr c43
                 clear c43
                 obtain rfl := Option.some.inj H
                 go_wp2_with (first | ((with_reducible refine gate_callee (f := 59) rfl ?_); refine gL (some 86) Tryz.func59 #[.string (a0.extract (x8_3 : Int).toNat a0.size), .int .i64 (wrap64 (a1 - 1))] rfl ?_; (with_reducible refine (ih kj30 (by have := HJ2.out; have := HJ9.out; have := HK3.out; have := HJ30.out; omega) (a0.extract (x8_3 : Int).toNat a0.size) (wrap64 (a1 - 1)) t244 _ A42.out).mono ?_); rintro e w44 ⟨rfl, hb⟩; refine ⟨_, rfl, ?_⟩; have n0_ := Aside0.mk (below_step bl_ hb); clear HB; have HB := n0_; clear n0_; (try clear hb)))
                 go_ret
                 exact ⟨eq_, bl_⟩
                ·rw [if_neg c43] at H
                 have c43b0 : (t244 == 0) = false := beq_eq_false_iff_ne.mpr c43
                 have c43b1 : (t244 != 0) = true := bne_iff_ne.mpr c43
                 have H' := Aside0.mk H
                 clear H
                 go_wp2_with (first | ((with_reducible refine gate_callee (f := 59) rfl ?_); refine gL (some 86) Tryz.func59 #[.string (a0.extract (x8_3 : Int).toNat a0.size), .int .i64 (wrap64 (a1 - 1))] rfl ?_; (with_reducible refine (ih kj30 (by have := HJ2.out; have := HJ9.out; have := HK3.out; have := HJ30.out; omega) (a0.extract (x8_3 : Int).toNat a0.size) (wrap64 (a1 - 1)) t244 _ A42.out).mono ?_); rintro e w45 ⟨rfl, hb⟩; refine ⟨_, rfl, ?_⟩; have n0_ := Aside0.mk (below_step bl_ hb); clear HB; have HB := n0_; clear n0_; (try clear hb)))
                 go_roundg kj30
                 case measure => have := HJ2.out; have := HJ9.out; have := HK3.out; have := HJ30.out; omega
                 case rel => exact ⟨(wrap64 (x8_3 + t244)), (wrap64 (x9_3 + 1)), es_, es_, H', ⟨by have := HJ2.out; have := HJ9.out; have := HK3.out; have := HJ30.out; omega⟩, ⟨bl_⟩⟩
               ·rw [if_neg c41] at H
                exact absurd H (by simp)
              ·rw [if_neg c40] at H
               exact absurd H (by simp)
          ·rw [if_neg c30] at H
           have c30b0 : decide (x9_3 < t243) = false := decide_eq_false c30
           clear c30
           obtain rfl := Option.some.inj H
           have p28 : 0 ≤ (0 : Int) := (by omega)
           have q28 : 0 < a0.size := (by have : (0 : Int) < (a0.size : Int) := of_decide_eq_true (by first | (with_reducible assumption) | assumption); omega)
           have hx28 : ∀ h : 0 < a0.size, ((a0[0]'h).toNat : Int) = bt a0 0 := bt_at a0 0
           clear p28
           have qi28 : (0 < (a0.size : Int)) = True := eq_true (of_decide_eq_true (by first | (with_reducible assumption) | assumption))
           replace q28 := eq_true q28
           go_wp2_with (first | ((with_reducible refine gate_callee (f := 90) rfl ?_); refine gL (some 58) Tryz.func90 #[.int .u8 (bt a0 0)] rfl ?_; (with_reducible refine (letterlockref3_many.calls k3 (bt a0 0) t243 _ A29.out).mono ?_); rintro e w' ⟨rfl, ⟨nd, rfl⟩⟩; refine ⟨_, rfl, ?_⟩))
           go_ret
           exact ⟨eq_, bl_⟩
         ·rw [if_neg c27] at H
          exact absurd H (by simp)
def letterlockref3_Right.f (k : Nat) (a0 : ByteArray) : Option (Bool) := if a0.toList = ([] : List UInt8) then (some false) else (if (a0.size : Int) ≤ 4000 then ((letterlockref3_size.f k a0 40).bind fun t245 => (some (t245 == (a0.size : Int)))) else (some false))
set_option maxHeartbeats 8000000 in
set_option maxRecDepth 100000 in
theorem letterlockref3_Right.calls (k : Nat) (a0 : ByteArray) (r : Bool) (w : World) (h : letterlockref3_Right.f k a0 = some r) :
  Calls Tryz.prog 27 #[.string a0] w fun e w' => e = .returned (.bool r) ∧ Below w.heap.size w w' := by
 have HB := Aside0.mk (Below.refl w.heap.size w)
 unfold letterlockref3_Right.f at h
 have H := h
 clear h
 by_cases c2 : a0.toList = ([] : List UInt8)
 ·rw [if_pos c2] at H
  have c2b0 : (a0.toList == ([] : List UInt8)) = true := beq_iff_eq.mpr c2
  have c2b1 : (a0.toList != ([] : List UInt8)) = false := bne_eq_false_iff_eq.mpr c2
  clear c2
  obtain rfl := Option.some.inj H
  go_enter Tryz.func27, Tryz.ntmps27
  go_wp2
  go_ret
  exact ⟨eq_, bl_⟩
 ·rw [if_neg c2] at H
  have c2b0 : (a0.toList == ([] : List UInt8)) = false := beq_eq_false_iff_ne.mpr c2
  have c2b1 : (a0.toList != ([] : List UInt8)) = true := bne_iff_ne.mpr c2
  by_cases c3 : (a0.size : Int) ≤ 4000
  ·rw [if_pos c3] at H
   have c3b0 : decide ((a0.size : Int) ≤ 4000) = true := decide_eq_true c3
   have c3b1 : decide (a0.size ≤ 4000) = true := decide_eq_true (by omega)
   clear c3
   replace H := Option.bind_eq_some_iff.mp H
   obtain ⟨t245, A40, H⟩ := H
   try dsimp only at H
   have A4 := Aside0.mk A40
   clear A40
   obtain rfl := Option.some.inj H
   go_enter Tryz.func27, Tryz.ntmps27
   go_wp2_with (first | (go_at_call 59; (with_reducible refine (letterlockref3_size.calls k a0 40 t245 _ A4.out).mono ?_); rintro e w5 ⟨rfl, hb⟩; have n0_ := Aside0.mk (below_step bl_ hb); clear HB; have HB := n0_; clear n0_; (try clear hb)))
   go_ret
   exact ⟨eq_, bl_⟩
  ·rw [if_neg c3] at H
   have c3b0 : decide ((a0.size : Int) ≤ 4000) = false := decide_eq_false c3
   have c3b1 : decide (a0.size ≤ 4000) = false := decide_eq_false (by omega)
   clear c3
   obtain rfl := Option.some.inj H
   go_enter Tryz.func27, Tryz.ntmps27
   go_wp2
   go_ret
   exact ⟨eq_, bl_⟩
def letterlockref3_made.f (k : Nat) (a0 : ByteArray) : Option (ByteArray × Int) := (letterlockref3_Right.f k a0).bind fun t246 => (if t246 = true then (some (a0, 0)) else (some ((⟨#[]⟩ : ByteArray), 10)))
set_option maxHeartbeats 8000000 in
set_option maxRecDepth 100000 in
theorem letterlockref3_made.calls (k : Nat) (a0 : ByteArray) (r1 : ByteArray) (r2 : Int) (w : World) (h : letterlockref3_made.f k a0 = some (r1, r2)) :
  Calls Tryz.prog 62 #[.string a0] w fun e w' => e = .returned (.tuple #[.string r1, .int .i64 r2]) ∧ Below w.heap.size w w' := by
 have HB := Aside0.mk (Below.refl w.heap.size w)
 unfold letterlockref3_made.f at h
 have H := h
 clear h
 replace H := Option.bind_eq_some_iff.mp H
 obtain ⟨t246, A20, H⟩ := H
 try dsimp only at H
 have A2 := Aside0.mk A20
 clear A20
 by_cases c3 : t246 = true
 ·subst c3
  rw [if_pos rfl] at H
  simp only [Option.some.injEq, Prod.mk.injEq] at H
  obtain ⟨rfl, rfl⟩ := H
  go_enter Tryz.func62, Tryz.ntmps62
  go_wp2_with (first | ((with_reducible refine gate_callee (f := 27) rfl ?_); refine gL (some 5) Tryz.func27 #[.string a0] rfl ?_; (with_reducible refine (letterlockref3_Right.calls k a0 true _ A2.out).mono ?_); rintro e w4 ⟨rfl, hb⟩; refine ⟨_, rfl, ?_⟩; have n0_ := Aside0.mk (below_step bl_ hb); clear HB; have HB := n0_; clear n0_; (try clear hb)))
  go_ret2
  exact ⟨eq_, bl_⟩
 ·replace c3 := Bool.eq_false_iff.mpr c3
  subst c3
  rw [if_neg (show ¬ (false = true) by decide)] at H
  simp only [Option.some.injEq, Prod.mk.injEq] at H
  obtain ⟨rfl, rfl⟩ := H
  go_enter Tryz.func62, Tryz.ntmps62
  go_wp2_with (first | ((with_reducible refine gate_callee (f := 27) rfl ?_); refine gL (some 5) Tryz.func27 #[.string a0] rfl ?_; (with_reducible refine (letterlockref3_Right.calls k a0 false _ A2.out).mono ?_); rintro e w5 ⟨rfl, hb⟩; refine ⟨_, rfl, ?_⟩; have n0_ := Aside0.mk (below_step bl_ hb); clear HB; have HB := n0_; clear n0_; (try clear hb)))
  go_ret2
  exact ⟨eq_, bl_⟩
def letterlockref3_OfText.f (k : Nat) (a0 : ByteArray) : Option (ByteArray × Int) := (letterlockref2_PutText.f k a0).bind fun t257 => (if 1 + t257.size ≤ 9223372036854775807 then ((letterlockref3_made.f k ((⟨#[116]⟩ : ByteArray) ++ t257)).bind fun bt258 => (some (bt258.1, bt258.2))) else (none))
set_option maxHeartbeats 8000000 in
set_option maxRecDepth 100000 in
theorem letterlockref3_OfText.calls (k : Nat) (a0 : ByteArray) (r1 : ByteArray) (r2 : Int) (w : World) (h : letterlockref3_OfText.f k a0 = some (r1, r2)) :
  Calls Tryz.prog 29 #[.string a0] w fun e w' => e = .returned (.tuple #[.string r1, .int .i64 r2]) ∧ Below w.heap.size w w' := by
 have HB := Aside0.mk (Below.refl w.heap.size w)
 unfold letterlockref3_OfText.f at h
 have H := h
 clear h
 replace H := Option.bind_eq_some_iff.mp H
 obtain ⟨t257, A20, H⟩ := H
 try dsimp only at H
 have A2 := Aside0.mk A20
 clear A20
 by_cases c3 : 1 + t257.size ≤ 9223372036854775807
 ·rw [if_pos c3] at H
  have c3b0 := eq_true c3
  have c3b1 : decide (1 + t257.size ≤ 9223372036854775807) = true := decide_eq_true c3
  try have c3b2 : (9223372036854775807 < 1 + t257.size) = False := eq_false (Nat.not_lt.2 c3)
  replace H := Option.bind_eq_some_iff.mp H
  obtain ⟨⟨t258, t259⟩, A40, H⟩ := H
  try dsimp only at H
  have A4 := Aside0.mk A40
  clear A40
  simp only [Option.some.injEq, Prod.mk.injEq] at H
  obtain ⟨rfl, rfl⟩ := H
  go_enter Tryz.func29, Tryz.ntmps29
  go_wp2_with (first | ((with_reducible refine gate_callee (f := 63) rfl ?_); refine gL (some 5) Tryz.func63 #[.string a0] rfl ?_; (with_reducible refine (letterlockref2_PutText.calls k a0 t257 _ A2.out).mono ?_); rintro e w5 ⟨rfl, hb⟩; refine ⟨_, rfl, ?_⟩; have n0_ := Aside0.mk (below_step bl_ hb); clear HB; have HB := n0_; clear n0_; (try clear hb)) | ((with_reducible refine gate_callee (f := 62) rfl ?_); refine gL (some 7) Tryz.func62 #[.string ((⟨#[116]⟩ : ByteArray) ++ t257)] rfl ?_; (with_reducible refine (letterlockref3_made.calls k ((⟨#[116]⟩ : ByteArray) ++ t257) t258 t259 _ A4.out).mono ?_); rintro e w6 ⟨rfl, hb⟩; refine ⟨_, rfl, ?_⟩; have n0_ := Aside0.mk (below_step bl_ hb); clear HB; have HB := n0_; clear n0_; (try clear hb)))
  go_ret2
  exact ⟨eq_, bl_⟩
 ·rw [if_neg c3] at H
  exact absurd H (by simp)
def letterlockref3_two.f (k : Nat) (a0 : ByteArray) (a1 : ByteArray) (a2 : ByteArray) : Option (ByteArray × Int) := (letterlockref3_Right.f k a1).bind fun t260 => (if t260 = true then ((letterlockref3_Right.f k a2).bind fun t261 => (if t261 = true then (if a0.size + a1.size ≤ 9223372036854775807 then (if (a0 ++ a1).size + a2.size ≤ 9223372036854775807 then ((letterlockref3_made.f k ((a0 ++ a1) ++ a2)).bind fun bt262 => (some (bt262.1, bt262.2))) else (none)) else (none)) else (some ((⟨#[]⟩ : ByteArray), 1)))) else (some ((⟨#[]⟩ : ByteArray), 1)))
set_option maxHeartbeats 8000000 in
set_option maxRecDepth 100000 in
theorem letterlockref3_two.calls (k : Nat) (a0 : ByteArray) (a1 : ByteArray) (a2 : ByteArray) (r1 : ByteArray) (r2 : Int) (w : World) (h : letterlockref3_two.f k a0 a1 a2 = some (r1, r2)) :
  Calls Tryz.prog 68 #[.string a0, .string a1, .string a2] w fun e w' => e = .returned (.tuple #[.string r1, .int .i64 r2]) ∧ Below w.heap.size w w' := by
 have HB := Aside0.mk (Below.refl w.heap.size w)
 unfold letterlockref3_two.f at h
 have H := h
 clear h
 replace H := Option.bind_eq_some_iff.mp H
 obtain ⟨t260, A40, H⟩ := H
 try dsimp only at H
 have A4 := Aside0.mk A40
 clear A40
 by_cases c5 : t260 = true
 ·subst c5
  rw [if_pos rfl] at H
  replace H := Option.bind_eq_some_iff.mp H
  obtain ⟨t261, A60, H⟩ := H
  try dsimp only at H
  have A6 := Aside0.mk A60
  clear A60
  by_cases c7 : t261 = true
  ·subst c7
   rw [if_pos rfl] at H
   by_cases c8 : a0.size + a1.size ≤ 9223372036854775807
   ·rw [if_pos c8] at H
    have c8b0 := eq_true c8
    have c8b1 : decide (a0.size + a1.size ≤ 9223372036854775807) = true := decide_eq_true c8
    try have c8b2 : (9223372036854775807 < a0.size + a1.size) = False := eq_false (Nat.not_lt.2 c8)
    by_cases c9 : (a0 ++ a1).size + a2.size ≤ 9223372036854775807
    ·rw [if_pos c9] at H
     have c9b0 := eq_true c9
     have c9b1 : decide ((a0 ++ a1).size + a2.size ≤ 9223372036854775807) = true := decide_eq_true c9
     try have c9b2 : (9223372036854775807 < (a0 ++ a1).size + a2.size) = False := eq_false (Nat.not_lt.2 c9)
     (try (have c9b0n := c9b0; simp only [ByteArray.size_append, ByteArray.size_extract, Nat.min_self, size_lit1, Int.natCast_add, Int.natCast_one] at c9b0n))
     (try (have c9b1n := c9b1; simp only [ByteArray.size_append, ByteArray.size_extract, Nat.min_self, size_lit1, Int.natCast_add, Int.natCast_one] at c9b1n))
     (try (have c9b2n := c9b2; simp only [ByteArray.size_append, ByteArray.size_extract, Nat.min_self, size_lit1, Int.natCast_add, Int.natCast_one] at c9b2n))
     replace H := Option.bind_eq_some_iff.mp H
     obtain ⟨⟨t262, t263⟩, A100, H⟩ := H
     try dsimp only at H
     have A10 := Aside0.mk A100
     clear A100
     simp only [Option.some.injEq, Prod.mk.injEq] at H
     obtain ⟨rfl, rfl⟩ := H
     go_enter Tryz.func68, Tryz.ntmps68
     go_wp2_with (first | ((with_reducible refine gate_callee (f := 27) rfl ?_); refine gL (some 9) Tryz.func27 #[.string a1] rfl ?_; (with_reducible refine (letterlockref3_Right.calls k a1 true _ A4.out).mono ?_); rintro e w11 ⟨rfl, hb⟩; refine ⟨_, rfl, ?_⟩; have n0_ := Aside0.mk (below_step bl_ hb); clear HB; have HB := n0_; clear n0_; (try clear hb)) | (go_at_call 27; (with_reducible refine (letterlockref3_Right.calls k a2 true _ A6.out).mono ?_); rintro e w12 ⟨rfl, hb⟩; have n0_ := Aside0.mk (below_step bl_ hb); clear HB; have HB := n0_; clear n0_; (try clear hb)) | ((with_reducible refine gate_callee (f := 62) rfl ?_); refine gL (some 21) Tryz.func62 #[.string ((a0 ++ a1) ++ a2)] rfl ?_; (with_reducible refine (letterlockref3_made.calls k ((a0 ++ a1) ++ a2) t262 t263 _ A10.out).mono ?_); rintro e w13 ⟨rfl, hb⟩; refine ⟨_, rfl, ?_⟩; have n0_ := Aside0.mk (below_step bl_ hb); clear HB; have HB := n0_; clear n0_; (try clear hb)))
     go_ret2
     exact ⟨eq_, bl_⟩
    ·rw [if_neg c9] at H
     exact absurd H (by simp)
   ·rw [if_neg c8] at H
    exact absurd H (by simp)
  ·replace c7 := Bool.eq_false_iff.mpr c7
   subst c7
   rw [if_neg (show ¬ (false = true) by decide)] at H
   simp only [Option.some.injEq, Prod.mk.injEq] at H
   obtain ⟨rfl, rfl⟩ := H
   go_enter Tryz.func68, Tryz.ntmps68
   go_wp2_with (first | ((with_reducible refine gate_callee (f := 27) rfl ?_); refine gL (some 9) Tryz.func27 #[.string a1] rfl ?_; (with_reducible refine (letterlockref3_Right.calls k a1 true _ A4.out).mono ?_); rintro e w14 ⟨rfl, hb⟩; refine ⟨_, rfl, ?_⟩; have n0_ := Aside0.mk (below_step bl_ hb); clear HB; have HB := n0_; clear n0_; (try clear hb)) | (go_at_call 27; (with_reducible refine (letterlockref3_Right.calls k a2 false _ A6.out).mono ?_); rintro e w15 ⟨rfl, hb⟩; have n0_ := Aside0.mk (below_step bl_ hb); clear HB; have HB := n0_; clear n0_; (try clear hb)))
   go_ret2
   exact ⟨eq_, bl_⟩
 ·replace c5 := Bool.eq_false_iff.mpr c5
  subst c5
  rw [if_neg (show ¬ (false = true) by decide)] at H
  simp only [Option.some.injEq, Prod.mk.injEq] at H
  obtain ⟨rfl, rfl⟩ := H
  go_enter Tryz.func68, Tryz.ntmps68
  go_wp2_with (first | ((with_reducible refine gate_callee (f := 27) rfl ?_); refine gL (some 9) Tryz.func27 #[.string a1] rfl ?_; (with_reducible refine (letterlockref3_Right.calls k a1 false _ A4.out).mono ?_); rintro e w16 ⟨rfl, hb⟩; refine ⟨_, rfl, ?_⟩; have n0_ := Aside0.mk (below_step bl_ hb); clear HB; have HB := n0_; clear n0_; (try clear hb)))
  go_ret2
  exact ⟨eq_, bl_⟩
def letterlockref3_OfPair.f (k : Nat) (a0 : ByteArray) (a1 : ByteArray) : Option (ByteArray × Int) := (letterlockref3_two.f k (⟨#[112]⟩ : ByteArray) a0 a1).bind fun bt264 => (some (bt264.1, bt264.2))
set_option maxHeartbeats 8000000 in
set_option maxRecDepth 100000 in
theorem letterlockref3_OfPair.calls (k : Nat) (a0 : ByteArray) (a1 : ByteArray) (r1 : ByteArray) (r2 : Int) (w : World) (h : letterlockref3_OfPair.f k a0 a1 = some (r1, r2)) :
  Calls Tryz.prog 66 #[.string a0, .string a1] w fun e w' => e = .returned (.tuple #[.string r1, .int .i64 r2]) ∧ Below w.heap.size w w' := by
 have HB := Aside0.mk (Below.refl w.heap.size w)
 unfold letterlockref3_OfPair.f at h
 have H := h
 clear h
 replace H := Option.bind_eq_some_iff.mp H
 obtain ⟨⟨t264, t265⟩, A30, H⟩ := H
 try dsimp only at H
 have A3 := Aside0.mk A30
 clear A30
 simp only [Option.some.injEq, Prod.mk.injEq] at H
 obtain ⟨rfl, rfl⟩ := H
 go_enter Tryz.func66, Tryz.ntmps66
 go_wp2_with (first | ((with_reducible refine gate_callee (f := 68) rfl ?_); refine gL (some 8) Tryz.func68 #[.string (⟨#[112]⟩ : ByteArray), .string a0, .string a1] rfl ?_; (with_reducible refine (letterlockref3_two.calls k (⟨#[112]⟩ : ByteArray) a0 a1 t264 t265 _ A3.out).mono ?_); rintro e w4 ⟨rfl, hb⟩; refine ⟨_, rfl, ?_⟩; have n0_ := Aside0.mk (below_step bl_ hb); clear HB; have HB := n0_; clear n0_; (try clear hb)))
 go_ret2
 exact ⟨eq_, bl_⟩
def letterlockref3_OfAtom.f (k : Nat) (a0 : Int) : Option (ByteArray) := (letterlockref2_Put.f k a0).bind fun t266 => (if 1 + t266.size ≤ 9223372036854775807 then (some ((⟨#[97]⟩ : ByteArray) ++ t266)) else (none))
set_option maxHeartbeats 8000000 in
set_option maxRecDepth 100000 in
theorem letterlockref3_OfAtom.calls (k : Nat) (a0 : Int) (r : ByteArray) (w : World) (h : letterlockref3_OfAtom.f k a0 = some r) :
  Calls Tryz.prog 67 #[.int .u64 a0] w fun e w' => e = .returned (.string r) ∧ Below w.heap.size w w' := by
 have HB := Aside0.mk (Below.refl w.heap.size w)
 unfold letterlockref3_OfAtom.f at h
 have H := h
 clear h
 replace H := Option.bind_eq_some_iff.mp H
 obtain ⟨t266, A20, H⟩ := H
 try dsimp only at H
 have A2 := Aside0.mk A20
 clear A20
 by_cases c3 : 1 + t266.size ≤ 9223372036854775807
 ·rw [if_pos c3] at H
  have c3b0 := eq_true c3
  have c3b1 : decide (1 + t266.size ≤ 9223372036854775807) = true := decide_eq_true c3
  try have c3b2 : (9223372036854775807 < 1 + t266.size) = False := eq_false (Nat.not_lt.2 c3)
  obtain rfl := Option.some.inj H
  go_enter Tryz.func67, Tryz.ntmps67
  go_wp2_with (first | ((with_reducible refine gate_callee (f := 36) rfl ?_); refine gL (some 4) Tryz.func36 #[.int .u64 a0] rfl ?_; (with_reducible refine (letterlockref2_Put.calls k a0 t266 _ A2.out).mono ?_); rintro e w4 ⟨rfl, hb⟩; refine ⟨_, rfl, ?_⟩; have n0_ := Aside0.mk (below_step bl_ hb); clear HB; have HB := n0_; clear n0_; (try clear hb)))
  go_ret
  exact ⟨eq_, bl_⟩
 ·rw [if_neg c3] at H
  exact absurd H (by simp)
def letterlockref3_one.f (k : Nat) (a0 : ByteArray) (a1 : ByteArray) : Option (ByteArray × Int) := (letterlockref3_Right.f k a1).bind fun t267 => (if t267 = true then (if a0.size + a1.size ≤ 9223372036854775807 then ((letterlockref3_made.f k (a0 ++ a1)).bind fun bt268 => (some (bt268.1, bt268.2))) else (none)) else (some ((⟨#[]⟩ : ByteArray), 1)))
set_option maxHeartbeats 8000000 in
set_option maxRecDepth 100000 in
theorem letterlockref3_one.calls (k : Nat) (a0 : ByteArray) (a1 : ByteArray) (r1 : ByteArray) (r2 : Int) (w : World) (h : letterlockref3_one.f k a0 a1 = some (r1, r2)) :
  Calls Tryz.prog 82 #[.string a0, .string a1] w fun e w' => e = .returned (.tuple #[.string r1, .int .i64 r2]) ∧ Below w.heap.size w w' := by
 have HB := Aside0.mk (Below.refl w.heap.size w)
 unfold letterlockref3_one.f at h
 have H := h
 clear h
 replace H := Option.bind_eq_some_iff.mp H
 obtain ⟨t267, A30, H⟩ := H
 try dsimp only at H
 have A3 := Aside0.mk A30
 clear A30
 by_cases c4 : t267 = true
 ·subst c4
  rw [if_pos rfl] at H
  by_cases c5 : a0.size + a1.size ≤ 9223372036854775807
  ·rw [if_pos c5] at H
   have c5b0 := eq_true c5
   have c5b1 : decide (a0.size + a1.size ≤ 9223372036854775807) = true := decide_eq_true c5
   try have c5b2 : (9223372036854775807 < a0.size + a1.size) = False := eq_false (Nat.not_lt.2 c5)
   replace H := Option.bind_eq_some_iff.mp H
   obtain ⟨⟨t268, t269⟩, A60, H⟩ := H
   try dsimp only at H
   have A6 := Aside0.mk A60
   clear A60
   simp only [Option.some.injEq, Prod.mk.injEq] at H
   obtain ⟨rfl, rfl⟩ := H
   go_enter Tryz.func82, Tryz.ntmps82
   go_wp2_with (first | ((with_reducible refine gate_callee (f := 27) rfl ?_); refine gL (some 7) Tryz.func27 #[.string a1] rfl ?_; (with_reducible refine (letterlockref3_Right.calls k a1 true _ A3.out).mono ?_); rintro e w7 ⟨rfl, hb⟩; refine ⟨_, rfl, ?_⟩; have n0_ := Aside0.mk (below_step bl_ hb); clear HB; have HB := n0_; clear n0_; (try clear hb)) | ((with_reducible refine gate_callee (f := 62) rfl ?_); refine gL (some 12) Tryz.func62 #[.string (a0 ++ a1)] rfl ?_; (with_reducible refine (letterlockref3_made.calls k (a0 ++ a1) t268 t269 _ A6.out).mono ?_); rintro e w8 ⟨rfl, hb⟩; refine ⟨_, rfl, ?_⟩; have n0_ := Aside0.mk (below_step bl_ hb); clear HB; have HB := n0_; clear n0_; (try clear hb)))
   go_ret2
   exact ⟨eq_, bl_⟩
  ·rw [if_neg c5] at H
   exact absurd H (by simp)
 ·replace c4 := Bool.eq_false_iff.mpr c4
  subst c4
  rw [if_neg (show ¬ (false = true) by decide)] at H
  simp only [Option.some.injEq, Prod.mk.injEq] at H
  obtain ⟨rfl, rfl⟩ := H
  go_enter Tryz.func82, Tryz.ntmps82
  go_wp2_with (first | ((with_reducible refine gate_callee (f := 27) rfl ?_); refine gL (some 7) Tryz.func27 #[.string a1] rfl ?_; (with_reducible refine (letterlockref3_Right.calls k a1 false _ A3.out).mono ?_); rintro e w9 ⟨rfl, hb⟩; refine ⟨_, rfl, ?_⟩; have n0_ := Aside0.mk (below_step bl_ hb); clear HB; have HB := n0_; clear n0_; (try clear hb)))
  go_ret2
  exact ⟨eq_, bl_⟩
def letterlockref3_OfHash.f (k : Nat) (a0 : ByteArray) : Option (ByteArray × Int) := (letterlockref3_one.f k (⟨#[104]⟩ : ByteArray) a0).bind fun bt270 => (some (bt270.1, bt270.2))
set_option maxHeartbeats 8000000 in
set_option maxRecDepth 100000 in
theorem letterlockref3_OfHash.calls (k : Nat) (a0 : ByteArray) (r1 : ByteArray) (r2 : Int) (w : World) (h : letterlockref3_OfHash.f k a0 = some (r1, r2)) :
  Calls Tryz.prog 81 #[.string a0] w fun e w' => e = .returned (.tuple #[.string r1, .int .i64 r2]) ∧ Below w.heap.size w w' := by
 have HB := Aside0.mk (Below.refl w.heap.size w)
 unfold letterlockref3_OfHash.f at h
 have H := h
 clear h
 replace H := Option.bind_eq_some_iff.mp H
 obtain ⟨⟨t270, t271⟩, A20, H⟩ := H
 try dsimp only at H
 have A2 := Aside0.mk A20
 clear A20
 simp only [Option.some.injEq, Prod.mk.injEq] at H
 obtain ⟨rfl, rfl⟩ := H
 go_enter Tryz.func81, Tryz.ntmps81
 go_wp2_with (first | ((with_reducible refine gate_callee (f := 82) rfl ?_); refine gL (some 5) Tryz.func82 #[.string (⟨#[104]⟩ : ByteArray), .string a0] rfl ?_; (with_reducible refine (letterlockref3_one.calls k (⟨#[104]⟩ : ByteArray) a0 t270 t271 _ A2.out).mono ?_); rintro e w3 ⟨rfl, hb⟩; refine ⟨_, rfl, ?_⟩; have n0_ := Aside0.mk (below_step bl_ hb); clear HB; have HB := n0_; clear n0_; (try clear hb)))
 go_ret2
 exact ⟨eq_, bl_⟩
def letterlockref3_OfPublic.f (k : Nat) (a0 : ByteArray) : Option (ByteArray × Int) := (letterlockref3_one.f k (⟨#[117]⟩ : ByteArray) a0).bind fun bt281 => (some (bt281.1, bt281.2))
set_option maxHeartbeats 8000000 in
set_option maxRecDepth 100000 in
theorem letterlockref3_OfPublic.calls (k : Nat) (a0 : ByteArray) (r1 : ByteArray) (r2 : Int) (w : World) (h : letterlockref3_OfPublic.f k a0 = some (r1, r2)) :
  Calls Tryz.prog 47 #[.string a0] w fun e w' => e = .returned (.tuple #[.string r1, .int .i64 r2]) ∧ Below w.heap.size w w' := by
 have HB := Aside0.mk (Below.refl w.heap.size w)
 unfold letterlockref3_OfPublic.f at h
 have H := h
 clear h
 replace H := Option.bind_eq_some_iff.mp H
 obtain ⟨⟨t281, t282⟩, A20, H⟩ := H
 try dsimp only at H
 have A2 := Aside0.mk A20
 clear A20
 simp only [Option.some.injEq, Prod.mk.injEq] at H
 obtain ⟨rfl, rfl⟩ := H
 go_enter Tryz.func47, Tryz.ntmps47
 go_wp2_with (first | ((with_reducible refine gate_callee (f := 82) rfl ?_); refine gL (some 5) Tryz.func82 #[.string (⟨#[117]⟩ : ByteArray), .string a0] rfl ?_; (with_reducible refine (letterlockref3_one.calls k (⟨#[117]⟩ : ByteArray) a0 t281 t282 _ A2.out).mono ?_); rintro e w3 ⟨rfl, hb⟩; refine ⟨_, rfl, ?_⟩; have n0_ := Aside0.mk (below_step bl_ hb); clear HB; have HB := n0_; clear n0_; (try clear hb)))
 go_ret2
 exact ⟨eq_, bl_⟩
def letterlockref3_Kind.f (k : Nat) (a0 : ByteArray) : Option (Int) := (letterlockref3_Right.f k a0).bind fun t324 => (if t324 = true then (if 0 < (a0.size : Int) then (some (bt a0 0)) else (none)) else (some 0))
set_option maxHeartbeats 8000000 in
set_option maxRecDepth 100000 in
theorem letterlockref3_Kind.calls (k : Nat) (a0 : ByteArray) (r : Int) (w : World) (h : letterlockref3_Kind.f k a0 = some r) :
  Calls Tryz.prog 41 #[.string a0] w fun e w' => e = .returned (.int .u8 r) ∧ Below w.heap.size w w' := by
 have HB := Aside0.mk (Below.refl w.heap.size w)
 unfold letterlockref3_Kind.f at h
 have H := h
 clear h
 replace H := Option.bind_eq_some_iff.mp H
 obtain ⟨t324, A20, H⟩ := H
 try dsimp only at H
 have A2 := Aside0.mk A20
 clear A20
 by_cases c3 : t324 = true
 ·subst c3
  rw [if_pos rfl] at H
  by_cases c4 : 0 < (a0.size : Int)
  ·rw [if_pos c4] at H
   have c4b0 : decide (0 < (a0.size : Int)) = true := decide_eq_true c4
   have c4b1 : decide (0 < a0.size) = true := decide_eq_true (by omega)
   clear c4
   obtain rfl := Option.some.inj H
   go_enter Tryz.func41, Tryz.ntmps41
   go_wp2_with (first | ((with_reducible refine gate_callee (f := 27) rfl ?_); refine gL (some 4) Tryz.func27 #[.string a0] rfl ?_; (with_reducible refine (letterlockref3_Right.calls k a0 true _ A2.out).mono ?_); rintro e w6 ⟨rfl, hb⟩; refine ⟨_, rfl, ?_⟩; have n0_ := Aside0.mk (below_step bl_ hb); clear HB; have HB := n0_; clear n0_; (try clear hb); have p5 : 0 ≤ (0 : Int) := (by omega); have q5 : 0 < a0.size := (by have : (0 : Int) < (a0.size : Int) := of_decide_eq_true (by first | (with_reducible assumption) | assumption); omega); have hx5 : ∀ h : 0 < a0.size, ((a0[0]'h).toNat : Int) = bt a0 0 := bt_at a0 0; clear p5; have qi5 : (0 < (a0.size : Int)) = True := eq_true (of_decide_eq_true (by first | (with_reducible assumption) | assumption)); replace q5 := eq_true q5))
   go_ret
   exact ⟨eq_, bl_⟩
  ·rw [if_neg c4] at H
   exact absurd H (by simp)
 ·replace c3 := Bool.eq_false_iff.mpr c3
  subst c3
  rw [if_neg (show ¬ (false = true) by decide)] at H
  obtain rfl := Option.some.inj H
  go_enter Tryz.func41, Tryz.ntmps41
  go_wp2_with (first | ((with_reducible refine gate_callee (f := 27) rfl ?_); refine gL (some 4) Tryz.func27 #[.string a0] rfl ?_; (with_reducible refine (letterlockref3_Right.calls k a0 false _ A2.out).mono ?_); rintro e w7 ⟨rfl, hb⟩; refine ⟨_, rfl, ?_⟩; have n0_ := Aside0.mk (below_step bl_ hb); clear HB; have HB := n0_; clear n0_; (try clear hb)))
  go_ret
  exact ⟨eq_, bl_⟩
def letterlockref3_Parts.l0 : Nat → ByteArray → List ByteArray → ByteArray → Int → Option (List ByteArray × Int)
 | 0, _, _, _, _ => none
 | k + 1, x0, x4, x5, x6 => if 0 < (x0.size : Int) then ((letterlockref3_many.f k (bt x0 0)).bind fun t326 => (if x6 < t326 then ((letterlockref3_size.f k x5 40).bind fun t327 => (if 0 ≤ t327 then (if t327 ≤ (x5.size : Int) then (if x4.length < 8796093022208 then (letterlockref3_Parts.l0 k x0 (x4 ++ [x5.extract 0 (t327 : Int).toNat]) (x5.extract (t327 : Int).toNat x5.size) (wrap64 (x6 + 1))) else (none)) else (none)) else (none))) else (some (x4, 0)))) else (none)
def letterlockref3_Parts.f (k : Nat) (a0 : ByteArray) : Option (List ByteArray × Int) := (letterlockref3_Right.f k a0).bind fun t325 => (if t325 = true then (if 1 ≤ (a0.size : Int) then (letterlockref3_Parts.l0 k a0 ([] : List ByteArray) (a0.extract 1 a0.size) 0) else (none)) else (some (([] : List ByteArray), 1)))
set_option maxHeartbeats 8000000 in
set_option maxRecDepth 100000 in
theorem letterlockref3_Parts.calls (k : Nat) (a0 : ByteArray) (r1 : List ByteArray) (r2 : Int) (w : World) (h : letterlockref3_Parts.f k a0 = some (r1, r2)) :
  Calls Tryz.prog 93 #[.string a0] w fun e w' => ∃ v0_ : Value, e = .returned (.tuple #[v0_, .int .i64 r2]) ∧ Kd.R Kd.string 9 w' w.heap.size (fun _ => True) v0_ r1 ∧ Below w.heap.size w w' := by
 have HB := Aside0.mk (Below.refl w.heap.size w)
 unfold letterlockref3_Parts.f at h
 have H := h
 clear h
 replace H := Option.bind_eq_some_iff.mp H
 obtain ⟨t325, A20, H⟩ := H
 try dsimp only at H
 have A2 := Aside0.mk A20
 clear A20
 by_cases c3 : t325 = true
 ·subst c3
  rw [if_pos rfl] at H
  by_cases c4 : 1 ≤ (a0.size : Int)
  ·rw [if_pos c4] at H
   have c4b0 := eq_true c4
   have c4b1 : decide (1 ≤ (a0.size : Int)) = true := decide_eq_true c4
   clear c4
   have H' := Aside0.mk H
   clear H
   go_enter Tryz.func93, Tryz.ntmps93
   go_wp2_with (first | ((with_reducible refine gate_callee (f := 27) rfl ?_); refine gL (some 9) Tryz.func27 #[.string a0] rfl ?_; (with_reducible refine (letterlockref3_Right.calls k a0 true _ A2.out).mono ?_); rintro e w5 ⟨rfl, hb⟩; refine ⟨_, rfl, ?_⟩; have n0_ := Aside0.mk (below_step bl_ hb); clear HB; have HB := n0_; clear n0_; (try clear hb)))
   go_loopg [4, 5, 6] k (fun kq v4 v5 v6 w' => ∃ (x4_1 : List ByteArray) (x5_1 : ByteArray) (x6_1 : Int), v5 = .string x5_1 ∧ v6 = .int .i64 x6_1 ∧ Aside0 (letterlockref3_Parts.l0 kq a0 x4_1 x5_1 x6_1 = some (r1, r2)) ∧ Aside0 (kq ≤ k) ∧ Aside0 (Kd.R Kd.string 9 w' w.heap.size (fun _ => True) v4 x4_1) ∧ Aside0 (Below w.heap.size w w'))
   case atStart => exact ⟨(([] : List ByteArray)), (a0.extract 1 a0.size), (0), es_, es_, H', ⟨Nat.le_refl _⟩, ⟨by first | exact Kd.R_nil _ _ _ _ _ | exact Kd.N_nil _ _ _ _ _ | exact Kd.V_nil _ _ _ _ _ | exact Kd.Q_nil _ _ _ _ _ | exact Kd.S_nil _ _ _ _ _⟩, ⟨bl_⟩⟩
   case round =>
    clear H'
    try clear c2
    try clear p2
    try clear c3
    try clear c4
    try clear c4b0
    try clear c4b1
    obtain ⟨x4_1, x5_1, x6_1, rfl, rfl, HA, HK1, HO_4, HB⟩ := hrel
    cases gk with
    | zero => exact absurd HA.out (by simp [letterlockref3_Parts.l0])
    | succ k1 =>
     have H := HA.out
     clear HA
     simp only [letterlockref3_Parts.l0] at H
     by_cases c6 : 0 < (a0.size : Int)
     ·rw [if_pos c6] at H
      have c6b0 : decide (0 < (a0.size : Int)) = true := decide_eq_true c6
      have c6b1 : decide (0 < a0.size) = true := decide_eq_true (by omega)
      clear c6
      replace H := Option.bind_eq_some_iff.mp H
      obtain ⟨t326, A80, H⟩ := H
      try dsimp only at H
      have A8 := Aside0.mk A80
      clear A80
      by_cases c9 : x6_1 < t326
      ·rw [if_pos c9] at H
       have c9b0 : decide (x6_1 < t326) = true := decide_eq_true c9
       clear c9
       replace H := Option.bind_eq_some_iff.mp H
       obtain ⟨t327, A100, H⟩ := H
       try dsimp only at H
       have A10 := Aside0.mk A100
       clear A100
       by_cases c11 : 0 ≤ t327
       ·rw [if_pos c11] at H
        have c11b0 := eq_true c11
        have c11b1 : decide (0 ≤ t327) = true := decide_eq_true c11
        clear c11
        by_cases c12 : t327 ≤ (x5_1.size : Int)
        ·rw [if_pos c12] at H
         have c12b0 := eq_true c12
         have c12b1 : decide (t327 ≤ (x5_1.size : Int)) = true := decide_eq_true c12
         clear c12
         by_cases c13 : x4_1.length < 8796093022208
         ·rw [if_pos c13] at H
          have LMc13 := Aside0.mk c13
          clear c13
          obtain ⟨y328, hy328⟩ : ∃ y_ : List ByteArray, y_ = (x4_1 ++ [x5_1.extract 0 (t327 : Int).toNat]) := ⟨_, rfl⟩
          replace H : (letterlockref3_Parts.l0 k1 a0 y328 (x5_1.extract (t327 : Int).toNat x5_1.size) (wrap64 (x6_1 + 1))) = some (r1, r2) := by first | (rw [hy328]; with_reducible exact H) | (have H2_ := (Option.bind_some _ _).symm.trans H; rw [hy328]; with_reducible exact H2_) | (have H2_ := (Option.bind_some _ _).symm.trans H; with_reducible exact H2_) | with_reducible exact H | (rw [hy328]; exact H) | exact H
          have Ny328 := Aside0.mk hy328
          clear hy328
          have c14b0 := eq_true (of_decide_eq_true (by first | (with_reducible assumption) | assumption) : 0 ≤ t327)
          have c15b0 := eq_true (of_decide_eq_true (by first | (with_reducible assumption) | assumption) : t327 ≤ (x5_1.size : Int))
          have H' := Aside0.mk H
          clear H
          have p7 : 0 ≤ (0 : Int) := (by omega)
          have q7 : 0 < a0.size := (by have : (0 : Int) < (a0.size : Int) := of_decide_eq_true (by first | (with_reducible assumption) | assumption); omega)
          have hx7 : ∀ h : 0 < a0.size, ((a0[0]'h).toNat : Int) = bt a0 0 := bt_at a0 0
          clear p7
          have qi7 : (0 < (a0.size : Int)) = True := eq_true (of_decide_eq_true (by first | (with_reducible assumption) | assumption))
          replace q7 := eq_true q7
          go_wp2_with (first | ((with_reducible refine gate_callee (f := 90) rfl ?_); refine gL (some 16) Tryz.func90 #[.int .u8 (bt a0 0)] rfl ?_; (with_reducible refine (letterlockref3_many.calls k1 (bt a0 0) t326 _ A8.out).mono ?_); rintro e w' ⟨rfl, ⟨nd, rfl⟩⟩; refine ⟨_, rfl, ?_⟩) | ((with_reducible refine gate_callee (f := 59) rfl ?_); refine gL (some 21) Tryz.func59 #[.string x5_1, .int .i64 40] rfl ?_; (with_reducible refine (letterlockref3_size.calls k1 x5_1 40 t327 _ A10.out).mono ?_); rintro e w16 ⟨rfl, hb⟩; refine ⟨_, rfl, ?_⟩; have n0_ := Aside0.mk (Kd.R_below (by (with_reducible repeat (first | apply Kd.R_alloc | apply Kd.R_drewN | apply Kd.R_drew)); exact HO_4.out) hb); have n1_ := Aside0.mk (below_step bl_ hb); clear HO_4; clear HB; have HO_4 := n0_; have HB := n1_; clear n0_ n1_; (try clear hb)) | ((with_reducible refine gate_builtin (b := .append) (xs := #[.tmp 22, .tmp 26]) rfl ?_); at_builtin; refine Kd.R_append Kd.string (w0 := w) w.heap.size rfl (.tmp 22) (.tmp 26) 25 9 (.string ⟨#[]⟩) 16 rfl Tryz.underlying25 info9 rfl (by decide) (by omega) u4 x4_1 (x5_1.extract 0 (t327 : Int).toNat) [.string (x5_1.extract 0 (t327 : Int).toNat)] (fun _ => True) (fun _ => False) rfl rfl ?aP (fun _ hk => hk.elim) ?aF ?aO ?aB ?aS ?aL ?_; (case aP => exact rfl); (case aB => exact bl_); (case aF => exact (fun _ _ => trivial)); (case aO => exact (by (with_reducible repeat (first | apply Kd.R_alloc | apply Kd.R_drewN | apply Kd.R_drew)); exact HO_4.out)); (case aS => exact (below_size bl_)); (case aL => have := LMc13.out; omega); intro v329 w17 ho hb hg hat; rw [← Ny328.out] at ho; have n0_ := Aside0.mk (hb); have n1_ := Aside0.mk (ho); clear HB; clear HO_4; have HB := n0_; have HO330 := n1_; clear n0_ n1_; clear ho hb hg hat))
          go_roundg k1
          case measure => have := HK1.out; omega
          case rel => exact ⟨(y328), (x5_1.extract (t327 : Int).toNat x5_1.size), (wrap64 (x6_1 + 1)), es_, es_, H', ⟨by have := HK1.out; omega⟩, ⟨by (with_reducible repeat (first | apply Kd.R_alloc | apply Kd.R_drewN | apply Kd.R_drew)); exact HO330.out⟩, ⟨bl_⟩⟩
         ·rw [if_neg c13] at H
          exact absurd H (by simp)
        ·rw [if_neg c12] at H
         exact absurd H (by simp)
       ·rw [if_neg c11] at H
        exact absurd H (by simp)
      ·rw [if_neg c9] at H
       have c9b0 : decide (x6_1 < t326) = false := decide_eq_false c9
       clear c9
       simp only [Option.some.injEq, Prod.mk.injEq] at H
       obtain ⟨rfl, rfl⟩ := H
       have p7 : 0 ≤ (0 : Int) := (by omega)
       have q7 : 0 < a0.size := (by have : (0 : Int) < (a0.size : Int) := of_decide_eq_true (by first | (with_reducible assumption) | assumption); omega)
       have hx7 : ∀ h : 0 < a0.size, ((a0[0]'h).toNat : Int) = bt a0 0 := bt_at a0 0
       clear p7
       have qi7 : (0 < (a0.size : Int)) = True := eq_true (of_decide_eq_true (by first | (with_reducible assumption) | assumption))
       replace q7 := eq_true q7
       go_wp2_with (first | ((with_reducible refine gate_callee (f := 90) rfl ?_); refine gL (some 16) Tryz.func90 #[.int .u8 (bt a0 0)] rfl ?_; (with_reducible refine (letterlockref3_many.calls k1 (bt a0 0) t326 _ A8.out).mono ?_); rintro e w' ⟨rfl, ⟨nd, rfl⟩⟩; refine ⟨_, rfl, ?_⟩))
       go_ret2
       exact ⟨_, eq_, by (with_reducible repeat (first | apply Kd.R_alloc | apply Kd.R_drewN | apply Kd.R_drew)); exact HO_4.out, bl_⟩
     ·rw [if_neg c6] at H
      exact absurd H (by simp)
  ·rw [if_neg c4] at H
   exact absurd H (by simp)
 ·replace c3 := Bool.eq_false_iff.mpr c3
  subst c3
  rw [if_neg (show ¬ (false = true) by decide)] at H
  simp only [Option.some.injEq, Prod.mk.injEq] at H
  obtain ⟨rfl, rfl⟩ := H
  go_enter Tryz.func93, Tryz.ntmps93
  go_wp2_with (first | ((with_reducible refine gate_callee (f := 27) rfl ?_); refine gL (some 9) Tryz.func27 #[.string a0] rfl ?_; (with_reducible refine (letterlockref3_Right.calls k a0 false _ A2.out).mono ?_); rintro e w18 ⟨rfl, hb⟩; refine ⟨_, rfl, ?_⟩; have n0_ := Aside0.mk (below_step bl_ hb); clear HB; have HB := n0_; clear n0_; (try clear hb)))
  go_ret2
  exact ⟨_, eq_, by first | exact Kd.R_nil _ _ _ _ _ | exact Kd.N_nil _ _ _ _ _ | exact Kd.V_nil _ _ _ _ _ | exact Kd.Q_nil _ _ _ _ _ | exact Kd.S_nil _ _ _ _ _, bl_⟩
def letterlockref3_Sign.f (k : Nat) (a0 : ByteArray) (a1 : ByteArray) : Option (ByteArray × Int) := (letterlockref3_two.f k (⟨#[103]⟩ : ByteArray) a0 a1).bind fun bt369 => (some (bt369.1, bt369.2))
set_option maxHeartbeats 8000000 in
set_option maxRecDepth 100000 in
theorem letterlockref3_Sign.calls (k : Nat) (a0 : ByteArray) (a1 : ByteArray) (r1 : ByteArray) (r2 : Int) (w : World) (h : letterlockref3_Sign.f k a0 a1 = some (r1, r2)) :
  Calls Tryz.prog 32 #[.string a0, .string a1] w fun e w' => e = .returned (.tuple #[.string r1, .int .i64 r2]) ∧ Below w.heap.size w w' := by
 have HB := Aside0.mk (Below.refl w.heap.size w)
 unfold letterlockref3_Sign.f at h
 have H := h
 clear h
 replace H := Option.bind_eq_some_iff.mp H
 obtain ⟨⟨t369, t370⟩, A30, H⟩ := H
 try dsimp only at H
 have A3 := Aside0.mk A30
 clear A30
 simp only [Option.some.injEq, Prod.mk.injEq] at H
 obtain ⟨rfl, rfl⟩ := H
 go_enter Tryz.func32, Tryz.ntmps32
 go_wp2_with (first | ((with_reducible refine gate_callee (f := 68) rfl ?_); refine gL (some 8) Tryz.func68 #[.string (⟨#[103]⟩ : ByteArray), .string a0, .string a1] rfl ?_; (with_reducible refine (letterlockref3_two.calls k (⟨#[103]⟩ : ByteArray) a0 a1 t369 t370 _ A3.out).mono ?_); rintro e w4 ⟨rfl, hb⟩; refine ⟨_, rfl, ?_⟩; have n0_ := Aside0.mk (below_step bl_ hb); clear HB; have HB := n0_; clear n0_; (try clear hb)))
 go_ret2
 exact ⟨eq_, bl_⟩
end Go.Proofs.YtodiffgpefidoaaGreatDoor.P

