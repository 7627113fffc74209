/- Slimmed by wip/slim.py. -/
import Derived.Test.YtodiffgpefidoaaDoorG0
import Derived.Test.YtodiffgpefidoaaDoorGRef2
namespace Go.Proofs.YtodiffgpefidoaaDoor.P
open Go.RowKit Go.Proofs.YtodiffgpefidoaaDoorW.PrintWords Go.Proofs.YtodiffgpefidoaaDoorW.PrintLast Go.Proofs.YtodiffgpefidoaaDoorW.PrintMore
attribute [local go_sem] max2_int min2_int max_two min_two max_three min_three max_four min_four
set_option linter.unusedVariables false
set_option linter.unusedSimpArgs false
mutual
def letterlockref3_many.j0 : Nat → Int → Bool → Option (Int)
 | 0, _, _ => none
 | k + 1, x3, x4 => if x4 = true then (some 0) else (if x3 = 104 then (letterlockref3_many.j1 k x3 (x3 == 104)) else (letterlockref3_many.j1 k x3 (x3 == 117)))
def letterlockref3_many.j1 : Nat → Int → Bool → Option (Int)
 | 0, _, _ => none
 | k + 1, x3, x7 => if x7 = true then (some 1) else (if x3 = 112 then (some 2) else (if x3 = 115 then (some 2) else (if x3 = 98 then (some 2) else (if x3 = 103 then (some 2) else (some (-1))))))
end
def letterlockref3_many.f (k : Nat) (a0 : Int) : Option (Int) := if a0 = 97 then (letterlockref3_many.j0 k a0 (a0 == 97)) else (letterlockref3_many.j0 k a0 (a0 == 116))
theorem letterlockref3_many.mono_l : ∀ k, (∀ y0 y1, LeO (letterlockref3_many.j0 k y0 y1) (letterlockref3_many.j0 (k + 1) y0 y1)) ∧ (∀ y0 y1, LeO (letterlockref3_many.j1 k y0 y1) (letterlockref3_many.j1 (k + 1) y0 y1))
 | 0 => ⟨fun _ _ r h => by simp [letterlockref3_many.j0] at h, fun _ _ r h => by simp [letterlockref3_many.j1] at h⟩
 | k + 1 => by
  obtain ⟨ih0, ih1⟩ := letterlockref3_many.mono_l k
  refine ⟨?_, ?_⟩
  ·intro y0 y1
   unfold letterlockref3_many.j0
   repeat' first
   | (with_reducible exact ih0 _ _)
   | (with_reducible exact ih1 _ _)
   | (with_reducible exact LeO.refl _)
   | (with_reducible exact LeO.none _)
   | (with_reducible refine LeO.ite ?_ ?_)
   | (with_reducible refine LeO.bind ?_ (fun _ => ?_))
   | exact ih0 _ _
   | exact ih1 _ _
   | exact LeO.none _
   | refine LeO.ite ?_ ?_
   | refine LeO.bind ?_ (fun _ => ?_)
  ·intro y0 y1
   unfold letterlockref3_many.j1
   repeat' first
   | (with_reducible exact ih0 _ _)
   | (with_reducible exact ih1 _ _)
   | (with_reducible exact LeO.refl _)
   | (with_reducible exact LeO.none _)
   | (with_reducible refine LeO.ite ?_ ?_)
   | (with_reducible refine LeO.bind ?_ (fun _ => ?_))
   | exact ih0 _ _
   | exact ih1 _ _
   | exact LeO.none _
   | refine LeO.ite ?_ ?_
   | refine LeO.bind ?_ (fun _ => ?_)
theorem letterlockref3_many.mono : ∀ a0 k, LeO (letterlockref3_many.f k a0) (letterlockref3_many.f (k + 1) a0) := by
 intro a0 k
 obtain ⟨ih0, ih1⟩ := letterlockref3_many.mono_l k
 unfold letterlockref3_many.f
 repeat' first
   | (with_reducible exact ih0 _ _)
   | (with_reducible exact ih1 _ _)
   | (with_reducible exact LeO.refl _)
   | (with_reducible exact LeO.none _)
   | (with_reducible refine LeO.ite ?_ ?_)
   | (with_reducible refine LeO.bind ?_ (fun _ => ?_))
   | exact ih0 _ _
   | exact ih1 _ _
   | exact LeO.none _
   | refine LeO.ite ?_ ?_
   | refine LeO.bind ?_ (fun _ => ?_)
set_option maxHeartbeats 8000000 in
set_option maxRecDepth 100000 in
theorem letterlockref3_many.calls (k : Nat) (a0 : Int) (r : Int) (w : World) (h : letterlockref3_many.f k a0 = some r) :
  Calls Tryd.prog 86 #[.int .u8 a0] w fun e w' => e = .returned (.int .i64 r) ∧ Drawn0 w w' := by
 have H : (if a0 = 97 then (letterlockref3_many.j0 k a0 (a0 == 97)) else (letterlockref3_many.j0 k a0 (a0 == 116))) = some r := h
 clear h
 have HC2 := Aside0.mk H
 clear H
 go_enter Tryd.func86, Tryd.ntmps86
 go_upto_if 4 with (fail)
 go_cut [4] (fun v4 wc => ∃ (kq : Nat) (x4_1 : Bool), v4 = .bool x4_1 ∧ Aside0 (letterlockref3_many.j0 kq a0 x4_1 = some r) ∧ Aside0 (kq ≤ k) ∧ Drawn0 w wc)
 case first =>
  have H := HC2.out
  clear HC2
  by_cases c3 : a0 = 97
  ·rw [if_pos c3] at H
   have c3b0 : (a0 == 97) = true := beq_iff_eq.mpr c3
   have c3b1 : (a0 != 97) = false := bne_eq_false_iff_eq.mpr c3
   clear c3
   (first | rw [c3b0] | (simp only [i64_w, i32_w]; rw [c3b0]) | rw [c3b1] | skip)
   have H' := Aside0.mk H
   clear H
   go_wp2
   go_meet
   case rel => exact ⟨_, ((a0 == 97)), (by first | rfl | (simp; done) | (simp [*]; done) | (simp; exact isEmpty_ne _)), H', ⟨by first | omega | exact Nat.le_refl _⟩, by repeat (first | exact Drawn0.refl _ | apply Drawn0.step)⟩
  ·rw [if_neg c3] at H
   have c3b0 : (a0 == 97) = false := beq_eq_false_iff_ne.mpr c3
   have c3b1 : (a0 != 97) = true := bne_iff_ne.mpr c3
   (first | rw [c3b0] | (simp only [i64_w, i32_w]; rw [c3b0]) | rw [c3b1] | skip)
   have H' := Aside0.mk H
   clear H
   go_wp2
   go_meet
   case rel => exact ⟨_, ((a0 == 116)), (by first | rfl | (simp; done) | (simp [*]; done) | (simp; exact isEmpty_ne _)), H', ⟨by first | omega | exact Nat.le_refl _⟩, by repeat (first | exact Drawn0.refl _ | apply Drawn0.step)⟩
 case rest =>
  clear HC2
  try clear p2
  try clear c3
  try clear c3b0
  try clear c3b1
  obtain ⟨kq, x4_1, rfl, HA, HJ1, ⟨mc1, rfl⟩⟩ := hcut
  cases kq with
  | zero => exact absurd HA.out (by simp [letterlockref3_many.j0])
  | succ kj1 =>
   have H := HA.out
   clear HA
   simp only [letterlockref3_many.j0] at H
   by_cases c4 : x4_1 = true
   ·subst c4
    have H1 : (some 0) = some r := by rw [if_pos rfl] at H; exact H
    clear H
    have H := H1
    clear H1
    obtain rfl := Option.some.inj H
    go_wp2
    go_ret
    exact ⟨by first | rfl | (simp; done) | (simp [*]; done), by repeat (first | exact Drawn0.refl _ | apply Drawn0.step)⟩
   ·replace c4 := Bool.eq_false_iff.mpr c4
    subst c4
    have H1 : (if a0 = 104 then (letterlockref3_many.j1 kj1 a0 (a0 == 104)) else (letterlockref3_many.j1 kj1 a0 (a0 == 117))) = some r := by rw [if_neg (show ¬ (false = true) by decide)] at H; exact H
    clear H
    have H := H1
    clear H1
    have HC5 := Aside0.mk H
    clear H
    go_upto_if 7 with (fail)
    go_cut [7] (fun v7 wc => ∃ (kq : Nat) (x7_4 : Bool), v7 = .bool x7_4 ∧ Aside0 (letterlockref3_many.j1 kq a0 x7_4 = some r) ∧ Aside0 (kq ≤ kj1) ∧ Drawn0 w wc)
    case first =>
     have H := HC5.out
     clear HC5
     by_cases c6 : a0 = 104
     ·rw [if_pos c6] at H
      have c6b0 : (a0 == 104) = true := beq_iff_eq.mpr c6
      have c6b1 : (a0 != 104) = false := bne_eq_false_iff_eq.mpr c6
      clear c6
      (first | rw [c6b0] | (simp only [i64_w, i32_w]; rw [c6b0]) | rw [c6b1] | skip)
      have H' := Aside0.mk H
      clear H
      go_wp2
      go_meet
      case rel => exact ⟨_, ((a0 == 104)), (by first | rfl | (simp; done) | (simp [*]; done) | (simp; exact isEmpty_ne _)), H', ⟨by have := HJ1.out; first | omega | exact Nat.le_refl _⟩, by repeat (first | exact Drawn0.refl _ | apply Drawn0.step)⟩
     ·rw [if_neg c6] at H
      have c6b0 : (a0 == 104) = false := beq_eq_false_iff_ne.mpr c6
      have c6b1 : (a0 != 104) = true := bne_iff_ne.mpr c6
      (first | rw [c6b0] | (simp only [i64_w, i32_w]; rw [c6b0]) | rw [c6b1] | skip)
      have H' := Aside0.mk H
      clear H
      go_wp2
      go_meet
      case rel => exact ⟨_, ((a0 == 117)), (by first | rfl | (simp; done) | (simp [*]; done) | (simp; exact isEmpty_ne _)), H', ⟨by have := HJ1.out; first | omega | exact Nat.le_refl _⟩, by repeat (first | exact Drawn0.refl _ | apply Drawn0.step)⟩
    case rest =>
     clear HC5
     try clear c1
     try clear p2
     try clear c3
     try clear c3b0
     try clear c3b1
     try clear c4
     try clear c6
     try clear c6b0
     try clear c6b1
     try clear p2
     obtain ⟨kq, x7_4, rfl, HA, HJ4, ⟨mc4, rfl⟩⟩ := hcut
     cases kq with
     | zero => exact absurd HA.out (by simp [letterlockref3_many.j1])
     | succ kj4 =>
      have H := HA.out
      clear HA
      simp only [letterlockref3_many.j1] at H
      by_cases c7 : x7_4 = true
      ·subst c7
       have H1 : (some 1) = some r := by rw [if_pos rfl] at H; exact H
       clear H
       have H := H1
       clear H1
       obtain rfl := Option.some.inj H
       go_wp2
       go_ret
       exact ⟨by first | rfl | (simp; done) | (simp [*]; done), by repeat (first | exact Drawn0.refl _ | apply Drawn0.step)⟩
      ·replace c7 := Bool.eq_false_iff.mpr c7
       subst c7
       have H1 : (if a0 = 112 then (some 2) else (if a0 = 115 then (some 2) else (if a0 = 98 then (some 2) else (if a0 = 103 then (some 2) else (some (-1)))))) = some r := by rw [if_neg (show ¬ (false = true) by decide)] at H; exact H
       clear H
       have H := H1
       clear H1
       by_cases c8 : a0 = 112
       ·rw [if_pos c8] at H
        have c8b0 : (a0 == 112) = true := beq_iff_eq.mpr c8
        have c8b1 : (a0 != 112) = false := bne_eq_false_iff_eq.mpr c8
        clear c8
        obtain rfl := Option.some.inj H
        go_wp2
        go_ret
        exact ⟨by first | rfl | (simp; done) | (simp [*]; done), by repeat (first | exact Drawn0.refl _ | apply Drawn0.step)⟩
       ·rw [if_neg c8] at H
        have c8b0 : (a0 == 112) = false := beq_eq_false_iff_ne.mpr c8
        have c8b1 : (a0 != 112) = true := bne_iff_ne.mpr c8
        by_cases c9 : a0 = 115
        ·rw [if_pos c9] at H
         have c9b0 : (a0 == 115) = true := beq_iff_eq.mpr c9
         have c9b1 : (a0 != 115) = false := bne_eq_false_iff_eq.mpr c9
         clear c9
         obtain rfl := Option.some.inj H
         go_wp2
         go_ret
         exact ⟨by first | rfl | (simp; done) | (simp [*]; done), by repeat (first | exact Drawn0.refl _ | apply Drawn0.step)⟩
        ·rw [if_neg c9] at H
         have c9b0 : (a0 == 115) = false := beq_eq_false_iff_ne.mpr c9
         have c9b1 : (a0 != 115) = true := bne_iff_ne.mpr c9
         by_cases c10 : a0 = 98
         ·rw [if_pos c10] at H
          have c10b0 : (a0 == 98) = true := beq_iff_eq.mpr c10
          have c10b1 : (a0 != 98) = false := bne_eq_false_iff_eq.mpr c10
          clear c10
          obtain rfl := Option.some.inj H
          go_wp2
          go_ret
          exact ⟨by first | rfl | (simp; done) | (simp [*]; done), by repeat (first | exact Drawn0.refl _ | apply Drawn0.step)⟩
         ·rw [if_neg c10] at H
          have c10b0 : (a0 == 98) = false := beq_eq_false_iff_ne.mpr c10
          have c10b1 : (a0 != 98) = true := bne_iff_ne.mpr c10
          by_cases c11 : a0 = 103
          ·rw [if_pos c11] at H
           have c11b0 : (a0 == 103) = true := beq_iff_eq.mpr c11
           have c11b1 : (a0 != 103) = false := bne_eq_false_iff_eq.mpr c11
           clear c11
           obtain rfl := Option.some.inj H
           go_wp2
           go_ret
           exact ⟨by first | rfl | (simp; done) | (simp [*]; done), by repeat (first | exact Drawn0.refl _ | apply Drawn0.step)⟩
          ·rw [if_neg c11] at H
           have c11b0 : (a0 == 103) = false := beq_eq_false_iff_ne.mpr c11
           have c11b1 : (a0 != 103) = true := bne_iff_ne.mpr c11
           obtain rfl := Option.some.inj H
           go_wp2
           go_ret
           exact ⟨by first | rfl | (simp; done) | (simp [*]; done), by repeat (first | exact Drawn0.refl _ | apply Drawn0.step)⟩
mutual
def letterlockref3_size.j0 : Nat → ByteArray → Int → Bool → Option (Int)
 | 0, _, _, _ => none
 | k + 1, x0, x1, x22 => if x22 = true then (some 0) else (if 0 < (x0.size : Int) then (if (bt x0 0) = 97 then (letterlockref3_size.j1 k x0 x1 true) else (letterlockref3_size.j1 k x0 x1 ((bt x0 0) == 116))) else (none))
def letterlockref3_size.j1 : Nat → ByteArray → Int → Bool → Option (Int)
 | 0, _, _, _ => none
 | k + 1, x0, x1, x30 => if x30 = true then (if 1 ≤ (x0.size : Int) then ((letterlockref2_Take.f k (x0.extract 1 x0.size)).bind fun bt203 => (if 0 < (x0.size : Int) then (if (bt x0 0) = 116 then ((letterlockref2_TakeText.f k (x0.extract 1 x0.size) 4000).bind fun bt206 => (if bt206.2.2 = 0 then (some (wrap64 ((x0.size : Int) - (bt206.2.1.size : Int)))) else (some 0))) else (if bt203.2.2 = 0 then (some (wrap64 ((x0.size : Int) - (bt203.2.1.size : Int)))) else (some 0))) else (none))) else (none)) else (letterlockref3_size.l0 k x0 x1 1 0)
def letterlockref3_size.l0 : Nat → ByteArray → Int → Int → Int → Option (Int)
 | 0, _, _, _, _ => none
 | k + 1, x0, x1, x8, x9 => if 0 < (x0.size : Int) then ((letterlockref3_many.f k (bt x0 0)).bind fun t209 => (if x9 < t209 then (if (bt x0 0) = 98 then (if x9 = 0 then (if x8 ≥ (x0.size : Int) then (letterlockref3_size.j3 k x0 x1 x8 x9 true) else (if 0 ≤ x8 then (if x8 < (x0.size : Int) then (letterlockref3_size.j3 k x0 x1 x8 x9 ((bt x0 x8) != 117)) else (none)) else (none))) else (letterlockref3_size.j3 k x0 x1 x8 x9 false)) else (letterlockref3_size.j3 k x0 x1 x8 x9 false)) else (some x8))) else (none)
def letterlockref3_size.j3 : Nat → ByteArray → Int → Int → Int → Bool → Option (Int)
 | 0, _, _, _, _, _ => none
 | k + 1, x0, x1, x8, x9, x80 => if x80 = true then (some 0) else (if 0 ≤ x8 then (if x8 ≤ (x0.size : Int) then ((letterlockref3_size.f k (x0.extract (x8 : Int).toNat x0.size) (wrap64 (x1 - 1))).bind fun t210 => (if t210 = 0 then (some 0) else (letterlockref3_size.l0 k x0 x1 (wrap64 (x8 + t210)) (wrap64 (x9 + 1))))) else (none)) else (none))
def letterlockref3_size.f : Nat → ByteArray → Int → Option (Int)
 | 0, _, _ => none
 | k + 1, a0, a1 => if a0.toList = ([] : List UInt8) then (letterlockref3_size.j0 k a0 a1 true) else (if a1 = 0 then (letterlockref3_size.j0 k a0 a1 true) else (if 0 < (a0.size : Int) then ((letterlockref3_many.f k (bt a0 0)).bind fun t202 => (letterlockref3_size.j0 k a0 a1 (decide (t202 < 0)))) else (none)))
end
set_option maxHeartbeats 8000000 in
set_option maxRecDepth 100000 in
theorem letterlockref3_size.calls (k : Nat) : ∀ (a0 : ByteArray) (a1 : Int) (r : Int) (w : World) (h : letterlockref3_size.f k a0 a1 = some r),
  Calls Tryd.prog 82 #[.string a0, .int .i64 a1] w fun e w' => e = .returned (.int .i64 r) ∧ Below w.heap.size w w' := by
 induction k using Nat.strongRecOn with
 | _ k ih =>
 intro a0 a1 r w h
 cases k with
 | zero => exact absurd h (by simp [letterlockref3_size.f])
 | succ k =>
 simp only [letterlockref3_size.f] at h
 have HB := Aside0.mk (Below.refl w.heap.size w)
 have H : (if a0.toList = ([] : List UInt8) then (letterlockref3_size.j0 k a0 a1 true) else (if a1 = 0 then (letterlockref3_size.j0 k a0 a1 true) else (if 0 < (a0.size : Int) then ((letterlockref3_many.f k (bt a0 0)).bind fun t202 => (letterlockref3_size.j0 k a0 a1 (decide (t202 < 0)))) else (none)))) = some r := h
 clear h
 have HC3 := Aside0.mk H
 clear H
 go_enter Tryd.func82, Tryd.ntmps82
 go_upto_region 1 with (fail)
 go_cut [22] (fun v22 wc => ∃ (kq : Nat) (x22_2 : Bool), v22 = .bool x22_2 ∧ Aside0 (letterlockref3_size.j0 kq a0 a1 x22_2 = some r) ∧ Aside0 (kq ≤ k) ∧ Aside0 (Below w.heap.size w wc))
 case first =>
  have H := HC3.out
  clear HC3
  by_cases c4 : a0.toList = ([] : List UInt8)
  ·rw [if_pos c4] at H
   have c4b0 : (a0.toList == ([] : List UInt8)) = true := beq_iff_eq.mpr c4
   have c4b1 : (a0.toList != ([] : List UInt8)) = false := bne_eq_false_iff_eq.mpr c4
   clear c4
   (first | rw [c4b0] | (simp only [i64_w, i32_w]; rw [c4b0]) | rw [c4b1] | skip)
   have H' := Aside0.mk H
   clear H
   go_wp2
   go_meet
   case rel => exact ⟨_, (true), (by first | rfl | (simp; done) | (simp [*]; done) | (simp; exact isEmpty_ne _)), H', ⟨by first | omega | exact Nat.le_refl _⟩, ⟨by repeat (first | (with_reducible first | exact HB.out | apply below_alloc | apply pw_below_drewN | apply below_drew1) | exact HB.out)⟩⟩
  ·rw [if_neg c4] at H
   have c4b0 : (a0.toList == ([] : List UInt8)) = false := beq_eq_false_iff_ne.mpr c4
   have c4b1 : (a0.toList != ([] : List UInt8)) = true := bne_iff_ne.mpr c4
   (first | rw [c4b0] | (simp only [i64_w, i32_w]; rw [c4b0]) | rw [c4b1] | skip)
   by_cases c5 : a1 = 0
   ·rw [if_pos c5] at H
    have c5b0 : (a1 == 0) = true := beq_iff_eq.mpr c5
    have c5b1 : (a1 != 0) = false := bne_eq_false_iff_eq.mpr c5
    clear c5
    have H' := Aside0.mk H
    clear H
    go_wp2
    go_meet
    case rel => exact ⟨_, (true), (by first | rfl | (simp; done) | (simp [*]; done) | (simp; exact isEmpty_ne _)), H', ⟨by first | omega | exact Nat.le_refl _⟩, ⟨by repeat (first | (with_reducible first | exact HB.out | apply below_alloc | apply pw_below_drewN | apply below_drew1) | exact HB.out)⟩⟩
   ·rw [if_neg c5] at H
    have c5b0 : (a1 == 0) = false := beq_eq_false_iff_ne.mpr c5
    have c5b1 : (a1 != 0) = true := bne_iff_ne.mpr c5
    by_cases c6 : 0 < (a0.size : Int)
    ·rw [if_pos c6] at H
     have c6b0 : decide (0 < (a0.size : Int)) = true := decide_eq_true c6
     have c6b1 : decide (0 < a0.size) = true := decide_eq_true (by omega)
     clear c6
     replace H := Option.bind_eq_some_iff.mp H
     obtain ⟨t202, A80, H⟩ := H
     replace H : (letterlockref3_size.j0 k a0 a1 (decide (t202 < 0))) = some r := H
     have A8 := Aside0.mk A80
     clear A80
     have H' := Aside0.mk H
     clear H
     have p7 : 0 ≤ (0 : Int) := (by omega)
     have q7 : 0 < a0.size := (by have : (0 : Int) < (a0.size : Int) := of_decide_eq_true (by first | (with_reducible assumption) | assumption); omega)
     have hx7 : ∀ h : 0 < a0.size, ((a0[0]'h).toNat : Int) = bt a0 0 := bt_at a0 0
     clear p7
     have qi7 : (0 < (a0.size : Int)) = True := eq_true (of_decide_eq_true (by first | (with_reducible assumption) | assumption))
     replace q7 := eq_true q7
     go_wp2_with (first | (go_at_call 86; (with_reducible refine (letterlockref3_many.calls k (bt a0 0) t202 _ A8.out).mono ?_); rintro e w' ⟨rfl, ⟨nd, rfl⟩⟩))
     go_meet
     case rel => exact ⟨_, (decide (t202 < 0)), (by first | rfl | (simp; done) | (simp [*]; done) | (simp; exact isEmpty_ne _)), H', ⟨by first | omega | exact Nat.le_refl _⟩, ⟨by repeat (first | (with_reducible first | exact HB.out | apply below_alloc | apply pw_below_drewN | apply below_drew1) | exact HB.out)⟩⟩
    ·rw [if_neg c6] at H
     exact absurd H (by simp)
 case rest =>
  clear HC3
  try clear p2
  try clear c4
  try clear c4b0
  try clear c4b1
  try clear c5
  try clear c5b0
  try clear c5b1
  try clear c6
  try clear c6b0
  try clear c6b1
  try clear p7
  try clear q7
  try clear hx7
  try clear qi7
  try clear c8
  try clear p7
  try clear q7
  obtain ⟨kq, x22_2, rfl, HA, HJ2, HB⟩ := hcut
  cases kq with
  | zero => exact absurd HA.out (by simp [letterlockref3_size.j0])
  | succ kj2 =>
   have H := HA.out
   clear HA
   simp only [letterlockref3_size.j0] at H
   by_cases c9 : x22_2 = true
   ·subst c9
    have H1 : (some 0) = some r := by rw [if_pos rfl] at H; exact H
    clear H
    have H := H1
    clear H1
    obtain rfl := Option.some.inj H
    go_wp2
    go_ret
    exact ⟨by first | rfl | (simp [errW_none, errW_some] <;> rfl) | (simp [*, errW_none, errW_some] <;> rfl), by repeat (first | (with_reducible first | exact HB.out | apply below_alloc | apply pw_below_drewN | apply below_drew1) | exact HB.out)⟩
   ·replace c9 := Bool.eq_false_iff.mpr c9
    subst c9
    have H1 : (if 0 < (a0.size : Int) then (if (bt a0 0) = 97 then (letterlockref3_size.j1 kj2 a0 a1 true) else (letterlockref3_size.j1 kj2 a0 a1 ((bt a0 0) == 116))) else (none)) = some r := by rw [if_neg (show ¬ (false = true) by decide)] at H; exact H
    clear H
    have H := H1
    clear H1
    have HC10 := Aside0.mk H
    clear H
    go_upto_region 3 with (fail)
    go_cut [30] (fun v30 wc => ∃ (kq : Nat) (x30_9 : Bool), v30 = .bool x30_9 ∧ Aside0 (letterlockref3_size.j1 kq a0 a1 x30_9 = some r) ∧ Aside0 (kq ≤ kj2) ∧ Aside0 (Below w.heap.size w wc))
    case first =>
     have H := HC10.out
     clear HC10
     by_cases c11 : 0 < (a0.size : Int)
     ·rw [if_pos c11] at H
      have c11b0 : decide (0 < (a0.size : Int)) = true := decide_eq_true c11
      have c11b1 : decide (0 < a0.size) = true := decide_eq_true (by omega)
      clear c11
      (first | rw [c11b0] | (simp only [i64_w, i32_w]; rw [c11b0]) | rw [c11b1] | skip)
      by_cases c13 : (bt a0 0) = 97
      ·rw [if_pos c13] at H
       have c13b0 : ((bt a0 0) == 97) = true := beq_iff_eq.mpr c13
       have c13b1 : ((bt a0 0) != 97) = false := bne_eq_false_iff_eq.mpr c13
       clear c13
       have H' := Aside0.mk H
       clear H
       have p12 : 0 ≤ (0 : Int) := (by omega)
       have q12 : 0 < a0.size := (by have : (0 : Int) < (a0.size : Int) := of_decide_eq_true (by first | (with_reducible assumption) | assumption); omega)
       have hx12 : ∀ h : 0 < a0.size, ((a0[0]'h).toNat : Int) = bt a0 0 := bt_at a0 0
       clear p12
       have qi12 : (0 < (a0.size : Int)) = True := eq_true (of_decide_eq_true (by first | (with_reducible assumption) | assumption))
       replace q12 := eq_true q12
       go_wp2
       go_meet
       case rel => exact ⟨_, (true), (by first | rfl | (simp; done) | (simp [*]; done) | (simp; exact isEmpty_ne _)), H', ⟨by have := HJ2.out; first | omega | exact Nat.le_refl _⟩, ⟨by repeat (first | (with_reducible first | exact HB.out | apply below_alloc | apply pw_below_drewN | apply below_drew1) | exact HB.out)⟩⟩
      ·rw [if_neg c13] at H
       have c13b0 : ((bt a0 0) == 97) = false := beq_eq_false_iff_ne.mpr c13
       have c13b1 : ((bt a0 0) != 97) = true := bne_iff_ne.mpr c13
       have H' := Aside0.mk H
       clear H
       have p12 : 0 ≤ (0 : Int) := (by omega)
       have q12 : 0 < a0.size := (by have : (0 : Int) < (a0.size : Int) := of_decide_eq_true (by first | (with_reducible assumption) | assumption); omega)
       have hx12 : ∀ h : 0 < a0.size, ((a0[0]'h).toNat : Int) = bt a0 0 := bt_at a0 0
       clear p12
       have qi12 : (0 < (a0.size : Int)) = True := eq_true (of_decide_eq_true (by first | (with_reducible assumption) | assumption))
       replace q12 := eq_true q12
       have p14 : 0 ≤ (0 : Int) := (by omega)
       have q14 : 0 < a0.size := (by have : (0 : Int) < (a0.size : Int) := of_decide_eq_true (by first | (with_reducible assumption) | assumption); omega)
       have hx14 : ∀ h : 0 < a0.size, ((a0[0]'h).toNat : Int) = bt a0 0 := bt_at a0 0
       clear p14
       have qi14 : (0 < (a0.size : Int)) = True := eq_true (of_decide_eq_true (by first | (with_reducible assumption) | assumption))
       replace q14 := eq_true q14
       go_wp2
       go_meet
       case rel => exact ⟨_, (((bt a0 0) == 116)), (by first | rfl | (simp; done) | (simp [*]; done) | (simp; exact isEmpty_ne _)), H', ⟨by have := HJ2.out; first | omega | exact Nat.le_refl _⟩, ⟨by repeat (first | (with_reducible first | exact HB.out | apply below_alloc | apply pw_below_drewN | apply below_drew1) | exact HB.out)⟩⟩
     ·rw [if_neg c11] at H
      exact absurd H (by simp)
    case rest =>
     clear HC10
     try clear c1
     try clear p1
     try clear q1
     try clear hx1
     try clear qi1
     try clear p2
     try clear c4
     try clear c4b0
     try clear c4b1
     try clear c5
     try clear c5b0
     try clear c5b1
     try clear c6
     try clear c6b0
     try clear c6b1
     try clear p7
     try clear q7
     try clear hx7
     try clear qi7
     try clear c8
     try clear c9
     try clear c11
     try clear c11b0
     try clear c11b1
     try clear p12
     try clear q12
     try clear hx12
     try clear qi12
     try clear c13
     try clear c13b0
     try clear c13b1
     try clear p14
     try clear q14
     try clear hx14
     try clear qi14
     try clear p12
     try clear p14
     try clear p2
     try clear p7
     try clear q12
     try clear q14
     try clear q7
     obtain ⟨kq, x30_9, rfl, HA, HJ9, HB⟩ := hcut
     cases kq with
     | zero => exact absurd HA.out (by simp [letterlockref3_size.j1])
     | succ kj9 =>
      have H := HA.out
      clear HA
      simp only [letterlockref3_size.j1] at H
      by_cases c15 : x30_9 = true
      ·subst c15
       have H1 : (if 1 ≤ (a0.size : Int) then ((letterlockref2_Take.f kj9 (a0.extract 1 a0.size)).bind fun bt203 => (if 0 < (a0.size : Int) then (if (bt a0 0) = 116 then ((letterlockref2_TakeText.f kj9 (a0.extract 1 a0.size) 4000).bind fun bt206 => (if bt206.2.2 = 0 then (some (wrap64 ((a0.size : Int) - (bt206.2.1.size : Int)))) else (some 0))) else (if bt203.2.2 = 0 then (some (wrap64 ((a0.size : Int) - (bt203.2.1.size : Int)))) else (some 0))) else (none))) else (none)) = some r := by rw [if_pos rfl] at H; exact H
       clear H
       have H := H1
       clear H1
       by_cases c16 : 1 ≤ (a0.size : Int)
       ·rw [if_pos c16] at H
        have c16b0 := eq_true c16
        have c16b1 : decide (1 ≤ (a0.size : Int)) = true := decide_eq_true c16
        clear c16
        replace H := Option.bind_eq_some_iff.mp H
        obtain ⟨⟨t203, t204, t205⟩, A170, H⟩ := H
        replace H : (if 0 < (a0.size : Int) then (if (bt a0 0) = 116 then ((letterlockref2_TakeText.f kj9 (a0.extract 1 a0.size) 4000).bind fun bt206 => (if bt206.2.2 = 0 then (some (wrap64 ((a0.size : Int) - (bt206.2.1.size : Int)))) else (some 0))) else (if t205 = 0 then (some (wrap64 ((a0.size : Int) - (t204.size : Int)))) else (some 0))) else (none)) = some r := H
        have A17 := Aside0.mk A170
        clear A170
        by_cases c18 : 0 < (a0.size : Int)
        ·rw [if_pos c18] at H
         have c18b0 : decide (0 < (a0.size : Int)) = true := decide_eq_true c18
         have c18b1 : decide (0 < a0.size) = true := decide_eq_true (by omega)
         clear c18
         by_cases c20 : (bt a0 0) = 116
         ·rw [if_pos c20] at H
          have c20b0 : ((bt a0 0) == 116) = true := beq_iff_eq.mpr c20
          have c20b1 : ((bt a0 0) != 116) = false := bne_eq_false_iff_eq.mpr c20
          clear c20
          have c21b0 := eq_true (of_decide_eq_true (by first | (with_reducible assumption) | assumption) : 1 ≤ (a0.size : Int))
          replace H := Option.bind_eq_some_iff.mp H
          obtain ⟨⟨t206, t207, t208⟩, A220, H⟩ := H
          replace H : (if t208 = 0 then (some (wrap64 ((a0.size : Int) - (t207.size : Int)))) else (some 0)) = some r := H
          have A22 := Aside0.mk A220
          clear A220
          by_cases c23 : t208 = 0
          ·rw [if_pos c23] at H
           have c23b0 : (t208 == 0) = true := beq_iff_eq.mpr c23
           have c23b1 : (t208 != 0) = false := bne_eq_false_iff_eq.mpr c23
           clear c23
           obtain rfl := Option.some.inj H
           go_wp2_with (first | ((with_reducible refine gate_callee (f := 87) rfl ?_); refine goesL_ (some 34) rfl rfl Tryd.func87 (by kernel_rfl) rfl #[.string (a0.extract 1 a0.size)] rfl (by (try simp only [List.map_toArray, List.map_cons, List.map_nil]); first | done | rfl | (simp only [List.length_drop, List.length_take]; rfl)) ?_; (with_reducible refine (letterlockref2_Take.calls kj9 (a0.extract 1 a0.size) t203 t204 t205 _ A17.out).mono ?_); rintro e w' ⟨rfl, ⟨nd, rfl⟩⟩; refine ⟨_, rfl, ?_⟩; have p19 : 0 ≤ (0 : Int) := (by omega); have q19 : 0 < a0.size := (by have : (0 : Int) < (a0.size : Int) := of_decide_eq_true (by first | (with_reducible assumption) | assumption); omega); have hx19 : ∀ h : 0 < a0.size, ((a0[0]'h).toNat : Int) = bt a0 0 := bt_at a0 0; clear p19; have qi19 : (0 < (a0.size : Int)) = True := eq_true (of_decide_eq_true (by first | (with_reducible assumption) | assumption)); replace q19 := eq_true q19) | ((with_reducible refine gate_callee (f := 88) rfl ?_); refine goesL_ (some 44) rfl rfl Tryd.func88 (by kernel_rfl) rfl #[.string (a0.extract 1 a0.size), .int .i64 4000] rfl (by (try simp only [List.map_toArray, List.map_cons, List.map_nil]); first | done | rfl | (simp only [List.length_drop, List.length_take]; rfl)) ?_; (with_reducible refine (letterlockref2_TakeText.calls kj9 (a0.extract 1 a0.size) 4000 t206 t207 t208 _ A22.out).mono ?_); rintro e w24 ⟨rfl, hb⟩; refine ⟨_, rfl, ?_⟩; have n0_ := Aside0.mk (below_step (by repeat (first | (with_reducible first | exact HB.out | apply below_alloc | apply pw_below_drewN | apply below_drew1) | exact HB.out)) hb); clear HB; have HB := n0_; clear n0_; (try clear hb); (try clear hb2); (try clear hk); (try clear hi)))
           go_ret
           exact ⟨by first | rfl | (simp [errW_none, errW_some] <;> rfl) | (simp [*, errW_none, errW_some] <;> rfl), by repeat (first | (with_reducible first | exact HB.out | apply below_alloc | apply pw_below_drewN | apply below_drew1) | exact HB.out)⟩
          ·rw [if_neg c23] at H
           have c23b0 : (t208 == 0) = false := beq_eq_false_iff_ne.mpr c23
           have c23b1 : (t208 != 0) = true := bne_iff_ne.mpr c23
           obtain rfl := Option.some.inj H
           go_wp2_with (first | ((with_reducible refine gate_callee (f := 87) rfl ?_); refine goesL_ (some 34) rfl rfl Tryd.func87 (by kernel_rfl) rfl #[.string (a0.extract 1 a0.size)] rfl (by (try simp only [List.map_toArray, List.map_cons, List.map_nil]); first | done | rfl | (simp only [List.length_drop, List.length_take]; rfl)) ?_; (with_reducible refine (letterlockref2_Take.calls kj9 (a0.extract 1 a0.size) t203 t204 t205 _ A17.out).mono ?_); rintro e w' ⟨rfl, ⟨nd, rfl⟩⟩; refine ⟨_, rfl, ?_⟩; have p19 : 0 ≤ (0 : Int) := (by omega); have q19 : 0 < a0.size := (by have : (0 : Int) < (a0.size : Int) := of_decide_eq_true (by first | (with_reducible assumption) | assumption); omega); have hx19 : ∀ h : 0 < a0.size, ((a0[0]'h).toNat : Int) = bt a0 0 := bt_at a0 0; clear p19; have qi19 : (0 < (a0.size : Int)) = True := eq_true (of_decide_eq_true (by first | (with_reducible assumption) | assumption)); replace q19 := eq_true q19) | ((with_reducible refine gate_callee (f := 88) rfl ?_); refine goesL_ (some 44) rfl rfl Tryd.func88 (by kernel_rfl) rfl #[.string (a0.extract 1 a0.size), .int .i64 4000] rfl (by (try simp only [List.map_toArray, List.map_cons, List.map_nil]); first | done | rfl | (simp only [List.length_drop, List.length_take]; rfl)) ?_; (with_reducible refine (letterlockref2_TakeText.calls kj9 (a0.extract 1 a0.size) 4000 t206 t207 t208 _ A22.out).mono ?_); rintro e w25 ⟨rfl, hb⟩; refine ⟨_, rfl, ?_⟩; have n0_ := Aside0.mk (below_step (by repeat (first | (with_reducible first | exact HB.out | apply below_alloc | apply pw_below_drewN | apply below_drew1) | exact HB.out)) hb); clear HB; have HB := n0_; clear n0_; (try clear hb); (try clear hb2); (try clear hk); (try clear hi)))
           go_ret
           exact ⟨by first | rfl | (simp [errW_none, errW_some] <;> rfl) | (simp [*, errW_none, errW_some] <;> rfl), by repeat (first | (with_reducible first | exact HB.out | apply below_alloc | apply pw_below_drewN | apply below_drew1) | exact HB.out)⟩
         ·rw [if_neg c20] at H
          have c20b0 : ((bt a0 0) == 116) = false := beq_eq_false_iff_ne.mpr c20
          have c20b1 : ((bt a0 0) != 116) = true := bne_iff_ne.mpr c20
          by_cases c26 : t205 = 0
          ·rw [if_pos c26] at H
           have c26b0 : (t205 == 0) = true := beq_iff_eq.mpr c26
           have c26b1 : (t205 != 0) = false := bne_eq_false_iff_eq.mpr c26
           clear c26
           obtain rfl := Option.some.inj H
           go_wp2_with (first | ((with_reducible refine gate_callee (f := 87) rfl ?_); refine goesL_ (some 34) rfl rfl Tryd.func87 (by kernel_rfl) rfl #[.string (a0.extract 1 a0.size)] rfl (by (try simp only [List.map_toArray, List.map_cons, List.map_nil]); first | done | rfl | (simp only [List.length_drop, List.length_take]; rfl)) ?_; (with_reducible refine (letterlockref2_Take.calls kj9 (a0.extract 1 a0.size) t203 t204 t205 _ A17.out).mono ?_); rintro e w' ⟨rfl, ⟨nd, rfl⟩⟩; refine ⟨_, rfl, ?_⟩; have p19 : 0 ≤ (0 : Int) := (by omega); have q19 : 0 < a0.size := (by have : (0 : Int) < (a0.size : Int) := of_decide_eq_true (by first | (with_reducible assumption) | assumption); omega); have hx19 : ∀ h : 0 < a0.size, ((a0[0]'h).toNat : Int) = bt a0 0 := bt_at a0 0; clear p19; have qi19 : (0 < (a0.size : Int)) = True := eq_true (of_decide_eq_true (by first | (with_reducible assumption) | assumption)); replace q19 := eq_true q19))
           go_ret
           exact ⟨by first | rfl | (simp [errW_none, errW_some] <;> rfl) | (simp [*, errW_none, errW_some] <;> rfl), by repeat (first | (with_reducible first | exact HB.out | apply below_alloc | apply pw_below_drewN | apply below_drew1) | exact HB.out)⟩
          ·rw [if_neg c26] at H
           have c26b0 : (t205 == 0) = false := beq_eq_false_iff_ne.mpr c26
           have c26b1 : (t205 != 0) = true := bne_iff_ne.mpr c26
           obtain rfl := Option.some.inj H
           go_wp2_with (first | ((with_reducible refine gate_callee (f := 87) rfl ?_); refine goesL_ (some 34) rfl rfl Tryd.func87 (by kernel_rfl) rfl #[.string (a0.extract 1 a0.size)] rfl (by (try simp only [List.map_toArray, List.map_cons, List.map_nil]); first | done | rfl | (simp only [List.length_drop, List.length_take]; rfl)) ?_; (with_reducible refine (letterlockref2_Take.calls kj9 (a0.extract 1 a0.size) t203 t204 t205 _ A17.out).mono ?_); rintro e w' ⟨rfl, ⟨nd, rfl⟩⟩; refine ⟨_, rfl, ?_⟩; have p19 : 0 ≤ (0 : Int) := (by omega); have q19 : 0 < a0.size := (by have : (0 : Int) < (a0.size : Int) := of_decide_eq_true (by first | (with_reducible assumption) | assumption); omega); have hx19 : ∀ h : 0 < a0.size, ((a0[0]'h).toNat : Int) = bt a0 0 := bt_at a0 0; clear p19; have qi19 : (0 < (a0.size : Int)) = True := eq_true (of_decide_eq_true (by first | (with_reducible assumption) | assumption)); replace q19 := eq_true q19))
           go_ret
           exact ⟨by first | rfl | (simp [errW_none, errW_some] <;> rfl) | (simp [*, errW_none, errW_some] <;> rfl), by repeat (first | (with_reducible first | exact HB.out | apply below_alloc | apply pw_below_drewN | apply below_drew1) | exact HB.out)⟩
        ·rw [if_neg c18] at H
         exact absurd H (by simp)
       ·rw [if_neg c16] at H
        exact absurd H (by simp)
      ·replace c15 := Bool.eq_false_iff.mpr c15
       subst c15
       have H1 : (letterlockref3_size.l0 kj9 a0 a1 1 0) = some r := by rw [if_neg (show ¬ (false = true) by decide)] at H; exact H
       clear H
       have H := H1
       clear H1
       have H' := Aside0.mk H
       clear H
       go_wp2
       go_loopg [8, 9] kj9 (fun kq v8 v9 w' => ∃ (x8_3 : Int) (x9_3 : Int), v8 = .int .i64 x8_3 ∧ v9 = .int .i64 x9_3 ∧ Aside0 (letterlockref3_size.l0 kq a0 a1 x8_3 x9_3 = some r) ∧ Aside0 (kq ≤ kj9) ∧ Aside0 (Below w.heap.size w w'))
       case atStart => exact ⟨(1), (0), (by first | rfl | (simp; done) | (simp [*]; done) | (simp; exact isEmpty_ne _)), (by first | rfl | (simp; done) | (simp [*]; done) | (simp; exact isEmpty_ne _)), H', ⟨Nat.le_refl _⟩, ⟨by repeat (first | (with_reducible first | exact HB.out | apply below_alloc | apply pw_below_drewN | apply below_drew1) | exact HB.out)⟩⟩
       case round =>
        clear H'
        try clear c1
        try clear p1
        try clear q1
        try clear hx1
        try clear qi1
        try clear c2
        try clear p2
        try clear c4
        try clear c4b0
        try clear c4b1
        try clear c5
        try clear c5b0
        try clear c5b1
        try clear c6
        try clear c6b0
        try clear c6b1
        try clear p6
        try clear p7
        try clear q7
        try clear hx7
        try clear qi7
        try clear c8
        try clear c9
        try clear c11
        try clear c11b0
        try clear c11b1
        try clear p12
        try clear q12
        try clear hx12
        try clear qi12
        try clear c13
        try clear c13b0
        try clear c13b1
        try clear p14
        try clear q14
        try clear hx14
        try clear qi14
        try clear c15
        try clear c16
        try clear c16b0
        try clear c16b1
        try clear c18
        try clear c18b0
        try clear c18b1
        try clear p19
        try clear q19
        try clear hx19
        try clear qi19
        try clear c20
        try clear c20b0
        try clear c20b1
        try clear c21
        try clear c21b0
        try clear c23
        try clear c23b0
        try clear c23b1
        try clear c26
        try clear c26b0
        try clear c26b1
        try clear p1
        try clear p12
        try clear p14
        try clear p19
        try clear p2
        try clear p7
        try clear q1
        try clear q12
        try clear q14
        try clear q19
        try clear q7
        obtain ⟨x8_3, x9_3, rfl, rfl, HA, HK3, HB⟩ := hrel
        cases gk with
        | zero => exact absurd HA.out (by simp [letterlockref3_size.l0])
        | succ k3 =>
         have H := HA.out
         clear HA
         simp only [letterlockref3_size.l0] at H
         by_cases c27 : 0 < (a0.size : Int)
         ·rw [if_pos c27] at H
          have c27b0 : decide (0 < (a0.size : Int)) = true := decide_eq_true c27
          have c27b1 : decide (0 < a0.size) = true := decide_eq_true (by omega)
          clear c27
          replace H := Option.bind_eq_some_iff.mp H
          obtain ⟨t209, A290, H⟩ := H
          replace H : (if x9_3 < t209 then (if (bt a0 0) = 98 then (if x9_3 = 0 then (if x8_3 ≥ (a0.size : Int) then (letterlockref3_size.j3 k3 a0 a1 x8_3 x9_3 true) else (if 0 ≤ x8_3 then (if x8_3 < (a0.size : Int) then (letterlockref3_size.j3 k3 a0 a1 x8_3 x9_3 ((bt a0 x8_3) != 117)) else (none)) else (none))) else (letterlockref3_size.j3 k3 a0 a1 x8_3 x9_3 false)) else (letterlockref3_size.j3 k3 a0 a1 x8_3 x9_3 false)) else (some x8_3)) = some r := H
          have A29 := Aside0.mk A290
          clear A290
          by_cases c30 : x9_3 < t209
          ·rw [if_pos c30] at H
           have c30b0 : decide (x9_3 < t209) = true := decide_eq_true c30
           clear c30
           have HC31 := Aside0.mk H
           clear H
           have p28 : 0 ≤ (0 : Int) := (by omega)
           have q28 : 0 < a0.size := (by have : (0 : Int) < (a0.size : Int) := of_decide_eq_true (by first | (with_reducible assumption) | assumption); omega)
           have hx28 : ∀ h : 0 < a0.size, ((a0[0]'h).toNat : Int) = bt a0 0 := bt_at a0 0
           clear p28
           have qi28 : (0 < (a0.size : Int)) = True := eq_true (of_decide_eq_true (by first | (with_reducible assumption) | assumption))
           replace q28 := eq_true q28
           go_upto_region 14 with (first | ((with_reducible refine gate_callee (f := 86) rfl ?_); refine goesL_ (some 58) rfl rfl Tryd.func86 (by kernel_rfl) rfl #[.int .u8 (bt a0 0)] rfl (by (try simp only [List.map_toArray, List.map_cons, List.map_nil]); first | done | rfl | (simp only [List.length_drop, List.length_take]; rfl)) ?_; (with_reducible refine (letterlockref3_many.calls k3 (bt a0 0) t209 _ A29.out).mono ?_); rintro e w' ⟨rfl, ⟨nd, rfl⟩⟩; refine ⟨_, rfl, ?_⟩))
           (try simp only [Act.put, List.setIfInBounds_toArray, List.set_cons_zero, List.set_cons_succ])
           go_cut [80] (fun v80 wc => ∃ (kq : Nat) (x80_30 : Bool), v80 = .bool x80_30 ∧ Aside0 (letterlockref3_size.j3 kq a0 a1 x8_3 x9_3 x80_30 = some r) ∧ Aside0 (kq ≤ k3) ∧ Aside0 (Below w.heap.size w wc))
           case first =>
            have H := HC31.out
            clear HC31
            by_cases c33 : (bt a0 0) = 98
            ·rw [if_pos c33] at H
             have c33b0 : ((bt a0 0) == 98) = true := beq_iff_eq.mpr c33
             have c33b1 : ((bt a0 0) != 98) = false := bne_eq_false_iff_eq.mpr c33
             clear c33
             (first | rw [c33b0] | (simp only [i64_w, i32_w]; rw [c33b0]) | rw [c33b1] | skip)
             by_cases c34 : x9_3 = 0
             ·rw [if_pos c34] at H
              have c34b0 : (x9_3 == 0) = true := beq_iff_eq.mpr c34
              have c34b1 : (x9_3 != 0) = false := bne_eq_false_iff_eq.mpr c34
              clear c34
              by_cases c35 : x8_3 ≥ (a0.size : Int)
              ·rw [if_pos c35] at H
               have c35b0 : decide ((a0.size : Int) ≤ x8_3) = true := decide_eq_true c35
               clear c35
               have H' := Aside0.mk H
               clear H
               have p32 : 0 ≤ (0 : Int) := (by omega)
               have q32 : 0 < a0.size := (by have : (0 : Int) < (a0.size : Int) := of_decide_eq_true (by first | (with_reducible assumption) | assumption); omega)
               have hx32 : ∀ h : 0 < a0.size, ((a0[0]'h).toNat : Int) = bt a0 0 := bt_at a0 0
               clear p32
               have qi32 : (0 < (a0.size : Int)) = True := eq_true (of_decide_eq_true (by first | (with_reducible assumption) | assumption))
               replace q32 := eq_true q32
               go_wp2
               go_meet
               case rel => exact ⟨_, (true), (by first | rfl | (simp; done) | (simp [*]; done) | (simp; exact isEmpty_ne _)), H', ⟨by have := HJ2.out; have := HJ9.out; have := HK3.out; first | omega | exact Nat.le_refl _⟩, ⟨by repeat (first | (with_reducible first | exact HB.out | apply below_alloc | apply pw_below_drewN | apply below_drew1) | exact HB.out)⟩⟩
              ·rw [if_neg c35] at H
               have c35b0 : decide ((a0.size : Int) ≤ x8_3) = false := decide_eq_false c35
               clear c35
               by_cases c36 : 0 ≤ x8_3
               ·rw [if_pos c36] at H
                have c36b0 : decide (0 ≤ x8_3) = true := decide_eq_true c36
                clear c36
                by_cases c37 : x8_3 < (a0.size : Int)
                ·rw [if_pos c37] at H
                 have c37b0 : decide (x8_3 < (a0.size : Int)) = true := decide_eq_true c37
                 clear c37
                 have H' := Aside0.mk H
                 clear H
                 have p32 : 0 ≤ (0 : Int) := (by omega)
                 have q32 : 0 < a0.size := (by have : (0 : Int) < (a0.size : Int) := of_decide_eq_true (by first | (with_reducible assumption) | assumption); omega)
                 have hx32 : ∀ h : 0 < a0.size, ((a0[0]'h).toNat : Int) = bt a0 0 := bt_at a0 0
                 clear p32
                 have qi32 : (0 < (a0.size : Int)) = True := eq_true (of_decide_eq_true (by first | (with_reducible assumption) | assumption))
                 replace q32 := eq_true q32
                 have p38 : 0 ≤ (x8_3 : Int) := of_decide_eq_true (by first | (with_reducible assumption) | assumption)
                 have q38 : x8_3 < (a0.size : Int) := of_decide_eq_true (by first | (with_reducible assumption) | assumption)
                 have hx38 := bt_at a0 x8_3
                 replace p38 := eq_true p38
                 replace q38 := eq_true q38
                 go_wp2
                 go_meet
                 case rel => exact ⟨_, (((bt a0 x8_3) != 117)), (by first | rfl | (simp; done) | (simp [*]; done) | (simp; exact isEmpty_ne _)), H', ⟨by have := HJ2.out; have := HJ9.out; have := HK3.out; first | omega | exact Nat.le_refl _⟩, ⟨by repeat (first | (with_reducible first | exact HB.out | apply below_alloc | apply pw_below_drewN | apply below_drew1) | exact HB.out)⟩⟩
                ·rw [if_neg c37] at H
                 exact absurd H (by simp)
               ·rw [if_neg c36] at H
                exact absurd H (by simp)
             ·rw [if_neg c34] at H
              have c34b0 : (x9_3 == 0) = false := beq_eq_false_iff_ne.mpr c34
              have c34b1 : (x9_3 != 0) = true := bne_iff_ne.mpr c34
              have H' := Aside0.mk H
              clear H
              have p32 : 0 ≤ (0 : Int) := (by omega)
              have q32 : 0 < a0.size := (by have : (0 : Int) < (a0.size : Int) := of_decide_eq_true (by first | (with_reducible assumption) | assumption); omega)
              have hx32 : ∀ h : 0 < a0.size, ((a0[0]'h).toNat : Int) = bt a0 0 := bt_at a0 0
              clear p32
              have qi32 : (0 < (a0.size : Int)) = True := eq_true (of_decide_eq_true (by first | (with_reducible assumption) | assumption))
              replace q32 := eq_true q32
              go_wp2
              go_meet
              case rel => exact ⟨_, (false), (by first | rfl | (simp; done) | (simp [*]; done) | (simp; exact isEmpty_ne _)), H', ⟨by have := HJ2.out; have := HJ9.out; have := HK3.out; first | omega | exact Nat.le_refl _⟩, ⟨by repeat (first | (with_reducible first | exact HB.out | apply below_alloc | apply pw_below_drewN | apply below_drew1) | exact HB.out)⟩⟩
            ·rw [if_neg c33] at H
             have c33b0 : ((bt a0 0) == 98) = false := beq_eq_false_iff_ne.mpr c33
             have c33b1 : ((bt a0 0) != 98) = true := bne_iff_ne.mpr c33
             (first | rw [c33b0] | (simp only [i64_w, i32_w]; rw [c33b0]) | rw [c33b1] | skip)
             have H' := Aside0.mk H
             clear H
             have p32 : 0 ≤ (0 : Int) := (by omega)
             have q32 : 0 < a0.size := (by have : (0 : Int) < (a0.size : Int) := of_decide_eq_true (by first | (with_reducible assumption) | assumption); omega)
             have hx32 : ∀ h : 0 < a0.size, ((a0[0]'h).toNat : Int) = bt a0 0 := bt_at a0 0
             clear p32
             have qi32 : (0 < (a0.size : Int)) = True := eq_true (of_decide_eq_true (by first | (with_reducible assumption) | assumption))
             replace q32 := eq_true q32
             go_wp2
             go_meet
             case rel => exact ⟨_, (false), (by first | rfl | (simp; done) | (simp [*]; done) | (simp; exact isEmpty_ne _)), H', ⟨by have := HJ2.out; have := HJ9.out; have := HK3.out; first | omega | exact Nat.le_refl _⟩, ⟨by repeat (first | (with_reducible first | exact HB.out | apply below_alloc | apply pw_below_drewN | apply below_drew1) | exact HB.out)⟩⟩
           case rest =>
            clear HC31
            try clear c1
            try clear p1
            try clear q1
            try clear hx1
            try clear qi1
            try clear c2
            try clear p2
            try clear q2
            try clear hx2
            try clear qi2
            try clear c3
            try clear p3
            try clear q3
            try clear hx3
            try clear qi3
            try clear c4
            try clear c4b0
            try clear c4b1
            try clear c5
            try clear c5b0
            try clear c5b1
            try clear c6
            try clear c6b0
            try clear c6b1
            try clear p6
            try clear p7
            try clear q7
            try clear hx7
            try clear qi7
            try clear c8
            try clear c9
            try clear c11
            try clear c11b0
            try clear c11b1
            try clear p12
            try clear q12
            try clear hx12
            try clear qi12
            try clear c13
            try clear c13b0
            try clear c13b1
            try clear p14
            try clear q14
            try clear hx14
            try clear qi14
            try clear c15
            try clear c16
            try clear c16b0
            try clear c16b1
            try clear c18
            try clear c18b0
            try clear c18b1
            try clear p19
            try clear q19
            try clear hx19
            try clear qi19
            try clear c20
            try clear c20b0
            try clear c20b1
            try clear c21
            try clear c21b0
            try clear c23
            try clear c23b0
            try clear c23b1
            try clear c26
            try clear c26b0
            try clear c26b1
            try clear c27
            try clear c27b0
            try clear c27b1
            try clear p28
            try clear q28
            try clear hx28
            try clear qi28
            try clear c30
            try clear c30b0
            try clear p32
            try clear q32
            try clear hx32
            try clear qi32
            try clear c33
            try clear c33b0
            try clear c33b1
            try clear c34
            try clear c34b0
            try clear c34b1
            try clear c35
            try clear c35b0
            try clear c36
            try clear c36b0
            try clear c37
            try clear c37b0
            try clear p38
            try clear q38
            try clear hx38
            try clear p1
            try clear p12
            try clear p14
            try clear p19
            try clear p2
            try clear p28
            try clear p32
            try clear p38
            try clear p6
            try clear p7
            try clear q1
            try clear q12
            try clear q14
            try clear q19
            try clear q28
            try clear q32
            try clear q38
            try clear q7
            obtain ⟨kq, x80_30, rfl, HA, HJ30, HB⟩ := hcut
            cases kq with
            | zero => exact absurd HA.out (by simp [letterlockref3_size.j3])
            | succ kj30 =>
             have H := HA.out
             clear HA
             simp only [letterlockref3_size.j3] at H
             by_cases c39 : x80_30 = true
             ·subst c39
              have H1 : (some 0) = some r := by rw [if_pos rfl] at H; exact H
              clear H
              have H := H1
              clear H1
              obtain rfl := Option.some.inj H
              go_wp2
              go_ret
              exact ⟨by first | rfl | (simp [errW_none, errW_some] <;> rfl) | (simp [*, errW_none, errW_some] <;> rfl), by repeat (first | (with_reducible first | exact HB.out | apply below_alloc | apply pw_below_drewN | apply below_drew1) | exact HB.out)⟩
             ·replace c39 := Bool.eq_false_iff.mpr c39
              subst c39
              have H1 : (if 0 ≤ x8_3 then (if x8_3 ≤ (a0.size : Int) then ((letterlockref3_size.f kj30 (a0.extract (x8_3 : Int).toNat a0.size) (wrap64 (a1 - 1))).bind fun t210 => (if t210 = 0 then (some 0) else (letterlockref3_size.l0 kj30 a0 a1 (wrap64 (x8_3 + t210)) (wrap64 (x9_3 + 1))))) else (none)) else (none)) = some r := by rw [if_neg (show ¬ (false = true) by decide)] at H; exact H
              clear H
              have H := H1
              clear H1
              by_cases c40 : 0 ≤ x8_3
              ·rw [if_pos c40] at H
               have c40b0 := eq_true c40
               have c40b1 : decide (0 ≤ x8_3) = true := decide_eq_true c40
               clear c40
               by_cases c41 : x8_3 ≤ (a0.size : Int)
               ·rw [if_pos c41] at H
                have c41b0 := eq_true c41
                have c41b1 : decide (x8_3 ≤ (a0.size : Int)) = true := decide_eq_true c41
                clear c41
                replace H := Option.bind_eq_some_iff.mp H
                obtain ⟨t210, A420, H⟩ := H
                replace H : (if t210 = 0 then (some 0) else (letterlockref3_size.l0 kj30 a0 a1 (wrap64 (x8_3 + t210)) (wrap64 (x9_3 + 1)))) = some r := H
                have A42 := Aside0.mk A420
                clear A420
                by_cases c43 : t210 = 0
                ·rw [if_pos c43] at H
                 have c43b0 : (t210 == 0) = true := beq_iff_eq.mpr c43
                 have c43b1 : (t210 != 0) = false := bne_eq_false_iff_eq.mpr c43
                 clear c43
                 obtain rfl := Option.some.inj H
                 go_wp2_with (first | ((with_reducible refine gate_callee (f := 82) rfl ?_); refine goesL_ (some 86) rfl rfl Tryd.func82 (by kernel_rfl) rfl #[.string (a0.extract (x8_3 : Int).toNat a0.size), .int .i64 (wrap64 (a1 - 1))] rfl (by (try simp only [List.map_toArray, List.map_cons, List.map_nil]); first | done | rfl | (simp only [List.length_drop, List.length_take]; rfl)) ?_; (with_reducible refine (ih kj30 (by have := HJ2.out; have := HJ9.out; have := HK3.out; have := HJ30.out; omega) (a0.extract (x8_3 : Int).toNat a0.size) (wrap64 (a1 - 1)) t210 _ A42.out).mono ?_); rintro e w44 ⟨rfl, hb⟩; refine ⟨_, rfl, ?_⟩; have n0_ := Aside0.mk (below_step (by repeat (first | (with_reducible first | exact HB.out | apply below_alloc | apply pw_below_drewN | apply below_drew1) | exact HB.out)) hb); clear HB; have HB := n0_; clear n0_; (try clear hb); (try clear hb2); (try clear hk); (try clear hi)))
                 go_ret
                 exact ⟨by first | rfl | (simp [errW_none, errW_some] <;> rfl) | (simp [*, errW_none, errW_some] <;> rfl), by repeat (first | (with_reducible first | exact HB.out | apply below_alloc | apply pw_below_drewN | apply below_drew1) | exact HB.out)⟩
                ·rw [if_neg c43] at H
                 have c43b0 : (t210 == 0) = false := beq_eq_false_iff_ne.mpr c43
                 have c43b1 : (t210 != 0) = true := bne_iff_ne.mpr c43
                 have H' := Aside0.mk H
                 clear H
                 go_wp2_with (first | ((with_reducible refine gate_callee (f := 82) rfl ?_); refine goesL_ (some 86) rfl rfl Tryd.func82 (by kernel_rfl) rfl #[.string (a0.extract (x8_3 : Int).toNat a0.size), .int .i64 (wrap64 (a1 - 1))] rfl (by (try simp only [List.map_toArray, List.map_cons, List.map_nil]); first | done | rfl | (simp only [List.length_drop, List.length_take]; rfl)) ?_; (with_reducible refine (ih kj30 (by have := HJ2.out; have := HJ9.out; have := HK3.out; have := HJ30.out; omega) (a0.extract (x8_3 : Int).toNat a0.size) (wrap64 (a1 - 1)) t210 _ A42.out).mono ?_); rintro e w45 ⟨rfl, hb⟩; refine ⟨_, rfl, ?_⟩; have n0_ := Aside0.mk (below_step (by repeat (first | (with_reducible first | exact HB.out | apply below_alloc | apply pw_below_drewN | apply below_drew1) | exact HB.out)) hb); clear HB; have HB := n0_; clear n0_; (try clear hb); (try clear hb2); (try clear hk); (try clear hi)))
                 go_roundg kj30
                 case measure => have := HJ2.out; have := HJ9.out; have := HK3.out; have := HJ30.out; omega
                 case rel => exact ⟨(wrap64 (x8_3 + t210)), (wrap64 (x9_3 + 1)), (by first | rfl | (simp; done) | (simp [*]; done) | (simp; exact isEmpty_ne _)), (by first | rfl | (simp; done) | (simp [*]; done) | (simp; exact isEmpty_ne _)), H', ⟨by have := HJ2.out; have := HJ9.out; have := HK3.out; have := HJ30.out; omega⟩, ⟨by repeat (first | (with_reducible first | exact HB.out | apply below_alloc | apply pw_below_drewN | apply below_drew1) | exact HB.out)⟩⟩
               ·rw [if_neg c41] at H
                exact absurd H (by simp)
              ·rw [if_neg c40] at H
               exact absurd H (by simp)
          ·rw [if_neg c30] at H
           have c30b0 : decide (x9_3 < t209) = false := decide_eq_false c30
           clear c30
           obtain rfl := Option.some.inj H
           have p28 : 0 ≤ (0 : Int) := (by omega)
           have q28 : 0 < a0.size := (by have : (0 : Int) < (a0.size : Int) := of_decide_eq_true (by first | (with_reducible assumption) | assumption); omega)
           have hx28 : ∀ h : 0 < a0.size, ((a0[0]'h).toNat : Int) = bt a0 0 := bt_at a0 0
           clear p28
           have qi28 : (0 < (a0.size : Int)) = True := eq_true (of_decide_eq_true (by first | (with_reducible assumption) | assumption))
           replace q28 := eq_true q28
           go_wp2_with (first | ((with_reducible refine gate_callee (f := 86) rfl ?_); refine goesL_ (some 58) rfl rfl Tryd.func86 (by kernel_rfl) rfl #[.int .u8 (bt a0 0)] rfl (by (try simp only [List.map_toArray, List.map_cons, List.map_nil]); first | done | rfl | (simp only [List.length_drop, List.length_take]; rfl)) ?_; (with_reducible refine (letterlockref3_many.calls k3 (bt a0 0) t209 _ A29.out).mono ?_); rintro e w' ⟨rfl, ⟨nd, rfl⟩⟩; refine ⟨_, rfl, ?_⟩))
           go_ret
           exact ⟨by first | rfl | (simp [errW_none, errW_some] <;> rfl) | (simp [*, errW_none, errW_some] <;> rfl), by repeat (first | (with_reducible first | exact HB.out | apply below_alloc | apply pw_below_drewN | apply below_drew1) | exact HB.out)⟩
         ·rw [if_neg c27] at H
          exact absurd H (by simp)
def letterlockref3_Right.f (k : Nat) (a0 : ByteArray) : Option (Bool) := if a0.toList = ([] : List UInt8) then (some false) else (if (a0.size : Int) ≤ 4000 then ((letterlockref3_size.f k a0 40).bind fun t211 => (some (t211 == (a0.size : Int)))) else (some false))
set_option maxHeartbeats 8000000 in
set_option maxRecDepth 100000 in
theorem letterlockref3_Right.calls (k : Nat) (a0 : ByteArray) (r : Bool) (w : World) (h : letterlockref3_Right.f k a0 = some r) :
  Calls Tryd.prog 78 #[.string a0] w fun e w' => e = .returned (.bool r) ∧ Below w.heap.size w w' := by
 have HB := Aside0.mk (Below.refl w.heap.size w)
 have H : (if a0.toList = ([] : List UInt8) then (some false) else (if (a0.size : Int) ≤ 4000 then ((letterlockref3_size.f k a0 40).bind fun t211 => (some (t211 == (a0.size : Int)))) else (some false))) = some r := h
 clear h
 by_cases c2 : a0.toList = ([] : List UInt8)
 ·rw [if_pos c2] at H
  have c2b0 : (a0.toList == ([] : List UInt8)) = true := beq_iff_eq.mpr c2
  have c2b1 : (a0.toList != ([] : List UInt8)) = false := bne_eq_false_iff_eq.mpr c2
  clear c2
  obtain rfl := Option.some.inj H
  go_enter Tryd.func78, Tryd.ntmps78
  go_wp2
  go_ret
  exact ⟨by first | rfl | (simp [errW_none, errW_some] <;> rfl) | (simp [*, errW_none, errW_some] <;> rfl), by repeat (first | (with_reducible first | exact HB.out | apply below_alloc | apply pw_below_drewN | apply below_drew1) | exact HB.out)⟩
 ·rw [if_neg c2] at H
  have c2b0 : (a0.toList == ([] : List UInt8)) = false := beq_eq_false_iff_ne.mpr c2
  have c2b1 : (a0.toList != ([] : List UInt8)) = true := bne_iff_ne.mpr c2
  by_cases c3 : (a0.size : Int) ≤ 4000
  ·rw [if_pos c3] at H
   have c3b0 : decide ((a0.size : Int) ≤ 4000) = true := decide_eq_true c3
   have c3b1 : decide (a0.size ≤ 4000) = true := decide_eq_true (by omega)
   clear c3
   replace H := Option.bind_eq_some_iff.mp H
   obtain ⟨t211, A40, H⟩ := H
   replace H : (some (t211 == (a0.size : Int))) = some r := H
   have A4 := Aside0.mk A40
   clear A40
   obtain rfl := Option.some.inj H
   go_enter Tryd.func78, Tryd.ntmps78
   go_wp2_with (first | (go_at_call 82; (with_reducible refine (letterlockref3_size.calls k a0 40 t211 _ A4.out).mono ?_); rintro e w5 ⟨rfl, hb⟩; have n0_ := Aside0.mk (below_step (by repeat (first | (with_reducible first | exact HB.out | apply below_alloc | apply pw_below_drewN | apply below_drew1) | exact HB.out)) hb); clear HB; have HB := n0_; clear n0_; (try clear hb); (try clear hb2); (try clear hk); (try clear hi)))
   go_ret
   exact ⟨by first | rfl | (simp [errW_none, errW_some] <;> rfl) | (simp [*, errW_none, errW_some] <;> rfl), by repeat (first | (with_reducible first | exact HB.out | apply below_alloc | apply pw_below_drewN | apply below_drew1) | exact HB.out)⟩
  ·rw [if_neg c3] at H
   have c3b0 : decide ((a0.size : Int) ≤ 4000) = false := decide_eq_false c3
   have c3b1 : decide (a0.size ≤ 4000) = false := decide_eq_false (by omega)
   clear c3
   obtain rfl := Option.some.inj H
   go_enter Tryd.func78, Tryd.ntmps78
   go_wp2
   go_ret
   exact ⟨by first | rfl | (simp [errW_none, errW_some] <;> rfl) | (simp [*, errW_none, errW_some] <;> rfl), by repeat (first | (with_reducible first | exact HB.out | apply below_alloc | apply pw_below_drewN | apply below_drew1) | exact HB.out)⟩
def letterlockref3_made.f (k : Nat) (a0 : ByteArray) : Option (ByteArray × Int) := (letterlockref3_Right.f k a0).bind fun t212 => (if t212 = true then (some (a0, 0)) else (some ((⟨#[]⟩ : ByteArray), 10)))
set_option maxHeartbeats 8000000 in
set_option maxRecDepth 100000 in
theorem letterlockref3_made.calls (k : Nat) (a0 : ByteArray) (r1 : ByteArray) (r2 : Int) (w : World) (h : letterlockref3_made.f k a0 = some (r1, r2)) :
  Calls Tryd.prog 67 #[.string a0] w fun e w' => e = .returned (.tuple #[.string r1, .int .i64 r2]) ∧ Below w.heap.size w w' := by
 have HB := Aside0.mk (Below.refl w.heap.size w)
 have H : ((letterlockref3_Right.f k a0).bind fun t212 => (if t212 = true then (some (a0, 0)) else (some ((⟨#[]⟩ : ByteArray), 10)))) = some (r1, r2) := h
 clear h
 replace H := Option.bind_eq_some_iff.mp H
 obtain ⟨t212, A20, H⟩ := H
 replace H : (if t212 = true then (some (a0, 0)) else (some ((⟨#[]⟩ : ByteArray), 10))) = some (r1, r2) := H
 have A2 := Aside0.mk A20
 clear A20
 by_cases c3 : t212 = true
 ·subst c3
  have H1 : (some (a0, 0)) = some (r1, r2) := by rw [if_pos rfl] at H; exact H
  clear H
  have H := H1
  clear H1
  simp only [Option.some.injEq, Prod.mk.injEq] at H
  obtain ⟨rfl, rfl⟩ := H
  go_enter Tryd.func67, Tryd.ntmps67
  go_wp2_with (first | ((with_reducible refine gate_callee (f := 78) rfl ?_); refine goesL_ (some 5) rfl rfl Tryd.func78 (by kernel_rfl) rfl #[.string a0] rfl (by (try simp only [List.map_toArray, List.map_cons, List.map_nil]); first | done | rfl | (simp only [List.length_drop, List.length_take]; rfl)) ?_; (with_reducible refine (letterlockref3_Right.calls k a0 true _ A2.out).mono ?_); rintro e w4 ⟨rfl, hb⟩; refine ⟨_, rfl, ?_⟩; have n0_ := Aside0.mk (below_step (by repeat (first | (with_reducible first | exact HB.out | apply below_alloc | apply pw_below_drewN | apply below_drew1) | exact HB.out)) hb); clear HB; have HB := n0_; clear n0_; (try clear hb); (try clear hb2); (try clear hk); (try clear hi)))
  go_ret2
  exact ⟨by first | rfl | (simp [errW_none, errW_some] <;> rfl) | (simp [*, errW_none, errW_some] <;> rfl), by repeat (first | (with_reducible first | exact HB.out | apply below_alloc | apply pw_below_drewN | apply below_drew1) | exact HB.out)⟩
 ·replace c3 := Bool.eq_false_iff.mpr c3
  subst c3
  have H1 : (some ((⟨#[]⟩ : ByteArray), 10)) = some (r1, r2) := by rw [if_neg (show ¬ (false = true) by decide)] at H; exact H
  clear H
  have H := H1
  clear H1
  simp only [Option.some.injEq, Prod.mk.injEq] at H
  obtain ⟨rfl, rfl⟩ := H
  go_enter Tryd.func67, Tryd.ntmps67
  go_wp2_with (first | ((with_reducible refine gate_callee (f := 78) rfl ?_); refine goesL_ (some 5) rfl rfl Tryd.func78 (by kernel_rfl) rfl #[.string a0] rfl (by (try simp only [List.map_toArray, List.map_cons, List.map_nil]); first | done | rfl | (simp only [List.length_drop, List.length_take]; rfl)) ?_; (with_reducible refine (letterlockref3_Right.calls k a0 false _ A2.out).mono ?_); rintro e w5 ⟨rfl, hb⟩; refine ⟨_, rfl, ?_⟩; have n0_ := Aside0.mk (below_step (by repeat (first | (with_reducible first | exact HB.out | apply below_alloc | apply pw_below_drewN | apply below_drew1) | exact HB.out)) hb); clear HB; have HB := n0_; clear n0_; (try clear hb); (try clear hb2); (try clear hk); (try clear hi)))
  go_ret2
  exact ⟨by first | rfl | (simp [errW_none, errW_some] <;> rfl) | (simp [*, errW_none, errW_some] <;> rfl), by repeat (first | (with_reducible first | exact HB.out | apply below_alloc | apply pw_below_drewN | apply below_drew1) | exact HB.out)⟩
def letterlockref3_OfText.f (k : Nat) (a0 : ByteArray) : Option (ByteArray × Int) := (letterlockref2_PutText.f k a0).bind fun t223 => (if 1 + t223.size ≤ 9223372036854775807 then ((letterlockref3_made.f k ((⟨#[116]⟩ : ByteArray) ++ t223)).bind fun bt224 => (some (bt224.1, bt224.2))) else (none))
set_option maxHeartbeats 8000000 in
set_option maxRecDepth 100000 in
theorem letterlockref3_OfText.calls (k : Nat) (a0 : ByteArray) (r1 : ByteArray) (r2 : Int) (w : World) (h : letterlockref3_OfText.f k a0 = some (r1, r2)) :
  Calls Tryd.prog 42 #[.string a0] w fun e w' => e = .returned (.tuple #[.string r1, .int .i64 r2]) ∧ Below w.heap.size w w' := by
 have HB := Aside0.mk (Below.refl w.heap.size w)
 have H : ((letterlockref2_PutText.f k a0).bind fun t223 => (if 1 + t223.size ≤ 9223372036854775807 then ((letterlockref3_made.f k ((⟨#[116]⟩ : ByteArray) ++ t223)).bind fun bt224 => (some (bt224.1, bt224.2))) else (none))) = some (r1, r2) := h
 clear h
 replace H := Option.bind_eq_some_iff.mp H
 obtain ⟨t223, A20, H⟩ := H
 replace H : (if 1 + t223.size ≤ 9223372036854775807 then ((letterlockref3_made.f k ((⟨#[116]⟩ : ByteArray) ++ t223)).bind fun bt224 => (some (bt224.1, bt224.2))) else (none)) = some (r1, r2) := H
 have A2 := Aside0.mk A20
 clear A20
 by_cases c3 : 1 + t223.size ≤ 9223372036854775807
 ·rw [if_pos c3] at H
  have c3b0 := eq_true c3
  have c3b1 : decide (1 + t223.size ≤ 9223372036854775807) = true := decide_eq_true c3
  try have c3b2 : (9223372036854775807 < 1 + t223.size) = False := eq_false (Nat.not_lt.2 c3)
  replace H := Option.bind_eq_some_iff.mp H
  obtain ⟨⟨t224, t225⟩, A40, H⟩ := H
  replace H : (some (t224, t225)) = some (r1, r2) := H
  have A4 := Aside0.mk A40
  clear A40
  simp only [Option.some.injEq, Prod.mk.injEq] at H
  obtain ⟨rfl, rfl⟩ := H
  go_enter Tryd.func42, Tryd.ntmps42
  go_wp2_with (first | ((with_reducible refine gate_callee (f := 68) rfl ?_); refine goesL_ (some 5) rfl rfl Tryd.func68 (by kernel_rfl) rfl #[.string a0] rfl (by (try simp only [List.map_toArray, List.map_cons, List.map_nil]); first | done | rfl | (simp only [List.length_drop, List.length_take]; rfl)) ?_; (with_reducible refine (letterlockref2_PutText.calls k a0 t223 _ A2.out).mono ?_); rintro e w5 ⟨rfl, hb⟩; refine ⟨_, rfl, ?_⟩; have n0_ := Aside0.mk (below_step (by repeat (first | (with_reducible first | exact HB.out | apply below_alloc | apply pw_below_drewN | apply below_drew1) | exact HB.out)) hb); clear HB; have HB := n0_; clear n0_; (try clear hb); (try clear hb2); (try clear hk); (try clear hi)) | ((with_reducible refine gate_callee (f := 67) rfl ?_); refine goesL_ (some 7) rfl rfl Tryd.func67 (by kernel_rfl) rfl #[.string ((⟨#[116]⟩ : ByteArray) ++ t223)] rfl (by (try simp only [List.map_toArray, List.map_cons, List.map_nil]); first | done | rfl | (simp only [List.length_drop, List.length_take]; rfl)) ?_; (with_reducible refine (letterlockref3_made.calls k ((⟨#[116]⟩ : ByteArray) ++ t223) t224 t225 _ A4.out).mono ?_); rintro e w6 ⟨rfl, hb⟩; refine ⟨_, rfl, ?_⟩; have n0_ := Aside0.mk (below_step (by repeat (first | (with_reducible first | exact HB.out | apply below_alloc | apply pw_below_drewN | apply below_drew1) | exact HB.out)) hb); clear HB; have HB := n0_; clear n0_; (try clear hb); (try clear hb2); (try clear hk); (try clear hi)))
  go_ret2
  exact ⟨by first | rfl | (simp [errW_none, errW_some] <;> rfl) | (simp [*, errW_none, errW_some] <;> rfl), by repeat (first | (with_reducible first | exact HB.out | apply below_alloc | apply pw_below_drewN | apply below_drew1) | exact HB.out)⟩
 ·rw [if_neg c3] at H
  exact absurd H (by simp)
def letterlockref3_two.f (k : Nat) (a0 : ByteArray) (a1 : ByteArray) (a2 : ByteArray) : Option (ByteArray × Int) := (letterlockref3_Right.f k a1).bind fun t226 => (if t226 = true then ((letterlockref3_Right.f k a2).bind fun t227 => (if t227 = true then (if a0.size + a1.size ≤ 9223372036854775807 then (if (a0 ++ a1).size + a2.size ≤ 9223372036854775807 then ((letterlockref3_made.f k ((a0 ++ a1) ++ a2)).bind fun bt228 => (some (bt228.1, bt228.2))) else (none)) else (none)) else (some ((⟨#[]⟩ : ByteArray), 1)))) else (some ((⟨#[]⟩ : ByteArray), 1)))
set_option maxHeartbeats 8000000 in
set_option maxRecDepth 100000 in
theorem letterlockref3_two.calls (k : Nat) (a0 : ByteArray) (a1 : ByteArray) (a2 : ByteArray) (r1 : ByteArray) (r2 : Int) (w : World) (h : letterlockref3_two.f k a0 a1 a2 = some (r1, r2)) :
  Calls Tryd.prog 69 #[.string a0, .string a1, .string a2] w fun e w' => e = .returned (.tuple #[.string r1, .int .i64 r2]) ∧ Below w.heap.size w w' := by
 have HB := Aside0.mk (Below.refl w.heap.size w)
 have H : ((letterlockref3_Right.f k a1).bind fun t226 => (if t226 = true then ((letterlockref3_Right.f k a2).bind fun t227 => (if t227 = true then (if a0.size + a1.size ≤ 9223372036854775807 then (if (a0 ++ a1).size + a2.size ≤ 9223372036854775807 then ((letterlockref3_made.f k ((a0 ++ a1) ++ a2)).bind fun bt228 => (some (bt228.1, bt228.2))) else (none)) else (none)) else (some ((⟨#[]⟩ : ByteArray), 1)))) else (some ((⟨#[]⟩ : ByteArray), 1)))) = some (r1, r2) := h
 clear h
 replace H := Option.bind_eq_some_iff.mp H
 obtain ⟨t226, A40, H⟩ := H
 replace H : (if t226 = true then ((letterlockref3_Right.f k a2).bind fun t227 => (if t227 = true then (if a0.size + a1.size ≤ 9223372036854775807 then (if (a0 ++ a1).size + a2.size ≤ 9223372036854775807 then ((letterlockref3_made.f k ((a0 ++ a1) ++ a2)).bind fun bt228 => (some (bt228.1, bt228.2))) else (none)) else (none)) else (some ((⟨#[]⟩ : ByteArray), 1)))) else (some ((⟨#[]⟩ : ByteArray), 1))) = some (r1, r2) := H
 have A4 := Aside0.mk A40
 clear A40
 by_cases c5 : t226 = true
 ·subst c5
  have H1 : ((letterlockref3_Right.f k a2).bind fun t227 => (if t227 = true then (if a0.size + a1.size ≤ 9223372036854775807 then (if (a0 ++ a1).size + a2.size ≤ 9223372036854775807 then ((letterlockref3_made.f k ((a0 ++ a1) ++ a2)).bind fun bt228 => (some (bt228.1, bt228.2))) else (none)) else (none)) else (some ((⟨#[]⟩ : ByteArray), 1)))) = some (r1, r2) := by rw [if_pos rfl] at H; exact H
  clear H
  have H := H1
  clear H1
  replace H := Option.bind_eq_some_iff.mp H
  obtain ⟨t227, A60, H⟩ := H
  replace H : (if t227 = true then (if a0.size + a1.size ≤ 9223372036854775807 then (if (a0 ++ a1).size + a2.size ≤ 9223372036854775807 then ((letterlockref3_made.f k ((a0 ++ a1) ++ a2)).bind fun bt228 => (some (bt228.1, bt228.2))) else (none)) else (none)) else (some ((⟨#[]⟩ : ByteArray), 1))) = some (r1, r2) := H
  have A6 := Aside0.mk A60
  clear A60
  by_cases c7 : t227 = true
  ·subst c7
   have H1 : (if a0.size + a1.size ≤ 9223372036854775807 then (if (a0 ++ a1).size + a2.size ≤ 9223372036854775807 then ((letterlockref3_made.f k ((a0 ++ a1) ++ a2)).bind fun bt228 => (some (bt228.1, bt228.2))) else (none)) else (none)) = some (r1, r2) := by rw [if_pos rfl] at H; exact H
   clear H
   have H := H1
   clear H1
   by_cases c8 : a0.size + a1.size ≤ 9223372036854775807
   ·rw [if_pos c8] at H
    have c8b0 := eq_true c8
    have c8b1 : decide (a0.size + a1.size ≤ 9223372036854775807) = true := decide_eq_true c8
    try have c8b2 : (9223372036854775807 < a0.size + a1.size) = False := eq_false (Nat.not_lt.2 c8)
    by_cases c9 : (a0 ++ a1).size + a2.size ≤ 9223372036854775807
    ·rw [if_pos c9] at H
     have c9b0 := eq_true c9
     have c9b1 : decide ((a0 ++ a1).size + a2.size ≤ 9223372036854775807) = true := decide_eq_true c9
     try have c9b2 : (9223372036854775807 < (a0 ++ a1).size + a2.size) = False := eq_false (Nat.not_lt.2 c9)
     (try (have c9b0n := c9b0; simp only [ByteArray.size_append, ByteArray.size_extract, Nat.min_self, size_lit1, Int.natCast_add, Int.natCast_one] at c9b0n))
     (try (have c9b1n := c9b1; simp only [ByteArray.size_append, ByteArray.size_extract, Nat.min_self, size_lit1, Int.natCast_add, Int.natCast_one] at c9b1n))
     (try (have c9b2n := c9b2; simp only [ByteArray.size_append, ByteArray.size_extract, Nat.min_self, size_lit1, Int.natCast_add, Int.natCast_one] at c9b2n))
     replace H := Option.bind_eq_some_iff.mp H
     obtain ⟨⟨t228, t229⟩, A100, H⟩ := H
     replace H : (some (t228, t229)) = some (r1, r2) := H
     have A10 := Aside0.mk A100
     clear A100
     simp only [Option.some.injEq, Prod.mk.injEq] at H
     obtain ⟨rfl, rfl⟩ := H
     go_enter Tryd.func69, Tryd.ntmps69
     go_wp2_with (first | ((with_reducible refine gate_callee (f := 78) rfl ?_); refine goesL_ (some 9) rfl rfl Tryd.func78 (by kernel_rfl) rfl #[.string a1] rfl (by (try simp only [List.map_toArray, List.map_cons, List.map_nil]); first | done | rfl | (simp only [List.length_drop, List.length_take]; rfl)) ?_; (with_reducible refine (letterlockref3_Right.calls k a1 true _ A4.out).mono ?_); rintro e w11 ⟨rfl, hb⟩; refine ⟨_, rfl, ?_⟩; have n0_ := Aside0.mk (below_step (by repeat (first | (with_reducible first | exact HB.out | apply below_alloc | apply pw_below_drewN | apply below_drew1) | exact HB.out)) hb); clear HB; have HB := n0_; clear n0_; (try clear hb); (try clear hb2); (try clear hk); (try clear hi)) | (go_at_call 78; (with_reducible refine (letterlockref3_Right.calls k a2 true _ A6.out).mono ?_); rintro e w12 ⟨rfl, hb⟩; have n0_ := Aside0.mk (below_step (by repeat (first | (with_reducible first | exact HB.out | apply below_alloc | apply pw_below_drewN | apply below_drew1) | exact HB.out)) hb); clear HB; have HB := n0_; clear n0_; (try clear hb); (try clear hb2); (try clear hk); (try clear hi)) | ((with_reducible refine gate_callee (f := 67) rfl ?_); refine goesL_ (some 21) rfl rfl Tryd.func67 (by kernel_rfl) rfl #[.string ((a0 ++ a1) ++ a2)] rfl (by (try simp only [List.map_toArray, List.map_cons, List.map_nil]); first | done | rfl | (simp only [List.length_drop, List.length_take]; rfl)) ?_; (with_reducible refine (letterlockref3_made.calls k ((a0 ++ a1) ++ a2) t228 t229 _ A10.out).mono ?_); rintro e w13 ⟨rfl, hb⟩; refine ⟨_, rfl, ?_⟩; have n0_ := Aside0.mk (below_step (by repeat (first | (with_reducible first | exact HB.out | apply below_alloc | apply pw_below_drewN | apply below_drew1) | exact HB.out)) hb); clear HB; have HB := n0_; clear n0_; (try clear hb); (try clear hb2); (try clear hk); (try clear hi)))
     go_ret2
     exact ⟨by first | rfl | (simp [errW_none, errW_some] <;> rfl) | (simp [*, errW_none, errW_some] <;> rfl), by repeat (first | (with_reducible first | exact HB.out | apply below_alloc | apply pw_below_drewN | apply below_drew1) | exact HB.out)⟩
    ·rw [if_neg c9] at H
     exact absurd H (by simp)
   ·rw [if_neg c8] at H
    exact absurd H (by simp)
  ·replace c7 := Bool.eq_false_iff.mpr c7
   subst c7
   have H1 : (some ((⟨#[]⟩ : ByteArray), 1)) = some (r1, r2) := by rw [if_neg (show ¬ (false = true) by decide)] at H; exact H
   clear H
   have H := H1
   clear H1
   simp only [Option.some.injEq, Prod.mk.injEq] at H
   obtain ⟨rfl, rfl⟩ := H
   go_enter Tryd.func69, Tryd.ntmps69
   go_wp2_with (first | ((with_reducible refine gate_callee (f := 78) rfl ?_); refine goesL_ (some 9) rfl rfl Tryd.func78 (by kernel_rfl) rfl #[.string a1] rfl (by (try simp only [List.map_toArray, List.map_cons, List.map_nil]); first | done | rfl | (simp only [List.length_drop, List.length_take]; rfl)) ?_; (with_reducible refine (letterlockref3_Right.calls k a1 true _ A4.out).mono ?_); rintro e w14 ⟨rfl, hb⟩; refine ⟨_, rfl, ?_⟩; have n0_ := Aside0.mk (below_step (by repeat (first | (with_reducible first | exact HB.out | apply below_alloc | apply pw_below_drewN | apply below_drew1) | exact HB.out)) hb); clear HB; have HB := n0_; clear n0_; (try clear hb); (try clear hb2); (try clear hk); (try clear hi)) | (go_at_call 78; (with_reducible refine (letterlockref3_Right.calls k a2 false _ A6.out).mono ?_); rintro e w15 ⟨rfl, hb⟩; have n0_ := Aside0.mk (below_step (by repeat (first | (with_reducible first | exact HB.out | apply below_alloc | apply pw_below_drewN | apply below_drew1) | exact HB.out)) hb); clear HB; have HB := n0_; clear n0_; (try clear hb); (try clear hb2); (try clear hk); (try clear hi)))
   go_ret2
   exact ⟨by first | rfl | (simp [errW_none, errW_some] <;> rfl) | (simp [*, errW_none, errW_some] <;> rfl), by repeat (first | (with_reducible first | exact HB.out | apply below_alloc | apply pw_below_drewN | apply below_drew1) | exact HB.out)⟩
 ·replace c5 := Bool.eq_false_iff.mpr c5
  subst c5
  have H1 : (some ((⟨#[]⟩ : ByteArray), 1)) = some (r1, r2) := by rw [if_neg (show ¬ (false = true) by decide)] at H; exact H
  clear H
  have H := H1
  clear H1
  simp only [Option.some.injEq, Prod.mk.injEq] at H
  obtain ⟨rfl, rfl⟩ := H
  go_enter Tryd.func69, Tryd.ntmps69
  go_wp2_with (first | ((with_reducible refine gate_callee (f := 78) rfl ?_); refine goesL_ (some 9) rfl rfl Tryd.func78 (by kernel_rfl) rfl #[.string a1] rfl (by (try simp only [List.map_toArray, List.map_cons, List.map_nil]); first | done | rfl | (simp only [List.length_drop, List.length_take]; rfl)) ?_; (with_reducible refine (letterlockref3_Right.calls k a1 false _ A4.out).mono ?_); rintro e w16 ⟨rfl, hb⟩; refine ⟨_, rfl, ?_⟩; have n0_ := Aside0.mk (below_step (by repeat (first | (with_reducible first | exact HB.out | apply below_alloc | apply pw_below_drewN | apply below_drew1) | exact HB.out)) hb); clear HB; have HB := n0_; clear n0_; (try clear hb); (try clear hb2); (try clear hk); (try clear hi)))
  go_ret2
  exact ⟨by first | rfl | (simp [errW_none, errW_some] <;> rfl) | (simp [*, errW_none, errW_some] <;> rfl), by repeat (first | (with_reducible first | exact HB.out | apply below_alloc | apply pw_below_drewN | apply below_drew1) | exact HB.out)⟩
def letterlockref3_OfPair.f (k : Nat) (a0 : ByteArray) (a1 : ByteArray) : Option (ByteArray × Int) := (letterlockref3_two.f k (⟨#[112]⟩ : ByteArray) a0 a1).bind fun bt230 => (some (bt230.1, bt230.2))
set_option maxHeartbeats 8000000 in
set_option maxRecDepth 100000 in
theorem letterlockref3_OfPair.calls (k : Nat) (a0 : ByteArray) (a1 : ByteArray) (r1 : ByteArray) (r2 : Int) (w : World) (h : letterlockref3_OfPair.f k a0 a1 = some (r1, r2)) :
  Calls Tryd.prog 43 #[.string a0, .string a1] w fun e w' => e = .returned (.tuple #[.string r1, .int .i64 r2]) ∧ Below w.heap.size w w' := by
 have HB := Aside0.mk (Below.refl w.heap.size w)
 have H : ((letterlockref3_two.f k (⟨#[112]⟩ : ByteArray) a0 a1).bind fun bt230 => (some (bt230.1, bt230.2))) = some (r1, r2) := h
 clear h
 replace H := Option.bind_eq_some_iff.mp H
 obtain ⟨⟨t230, t231⟩, A30, H⟩ := H
 replace H : (some (t230, t231)) = some (r1, r2) := H
 have A3 := Aside0.mk A30
 clear A30
 simp only [Option.some.injEq, Prod.mk.injEq] at H
 obtain ⟨rfl, rfl⟩ := H
 go_enter Tryd.func43, Tryd.ntmps43
 go_wp2_with (first | ((with_reducible refine gate_callee (f := 69) rfl ?_); refine goesL_ (some 8) rfl rfl Tryd.func69 (by kernel_rfl) rfl #[.string (⟨#[112]⟩ : ByteArray), .string a0, .string a1] rfl (by (try simp only [List.map_toArray, List.map_cons, List.map_nil]); first | done | rfl | (simp only [List.length_drop, List.length_take]; rfl)) ?_; (with_reducible refine (letterlockref3_two.calls k (⟨#[112]⟩ : ByteArray) a0 a1 t230 t231 _ A3.out).mono ?_); rintro e w4 ⟨rfl, hb⟩; refine ⟨_, rfl, ?_⟩; have n0_ := Aside0.mk (below_step (by repeat (first | (with_reducible first | exact HB.out | apply below_alloc | apply pw_below_drewN | apply below_drew1) | exact HB.out)) hb); clear HB; have HB := n0_; clear n0_; (try clear hb); (try clear hb2); (try clear hk); (try clear hi)))
 go_ret2
 exact ⟨by first | rfl | (simp [errW_none, errW_some] <;> rfl) | (simp [*, errW_none, errW_some] <;> rfl), by repeat (first | (with_reducible first | exact HB.out | apply below_alloc | apply pw_below_drewN | apply below_drew1) | exact HB.out)⟩
def letterlockref3_OfAtom.f (k : Nat) (a0 : Int) : Option (ByteArray) := (letterlockref2_Put.f k a0).bind fun t232 => (if 1 + t232.size ≤ 9223372036854775807 then (some ((⟨#[97]⟩ : ByteArray) ++ t232)) else (none))
set_option maxHeartbeats 8000000 in
set_option maxRecDepth 100000 in
theorem letterlockref3_OfAtom.calls (k : Nat) (a0 : Int) (r : ByteArray) (w : World) (h : letterlockref3_OfAtom.f k a0 = some r) :
  Calls Tryd.prog 44 #[.int .u64 a0] w fun e w' => e = .returned (.string r) ∧ Below w.heap.size w w' := by
 have HB := Aside0.mk (Below.refl w.heap.size w)
 have H : ((letterlockref2_Put.f k a0).bind fun t232 => (if 1 + t232.size ≤ 9223372036854775807 then (some ((⟨#[97]⟩ : ByteArray) ++ t232)) else (none))) = some r := h
 clear h
 replace H := Option.bind_eq_some_iff.mp H
 obtain ⟨t232, A20, H⟩ := H
 replace H : (if 1 + t232.size ≤ 9223372036854775807 then (some ((⟨#[97]⟩ : ByteArray) ++ t232)) else (none)) = some r := H
 have A2 := Aside0.mk A20
 clear A20
 by_cases c3 : 1 + t232.size ≤ 9223372036854775807
 ·rw [if_pos c3] at H
  have c3b0 := eq_true c3
  have c3b1 : decide (1 + t232.size ≤ 9223372036854775807) = true := decide_eq_true c3
  try have c3b2 : (9223372036854775807 < 1 + t232.size) = False := eq_false (Nat.not_lt.2 c3)
  obtain rfl := Option.some.inj H
  go_enter Tryd.func44, Tryd.ntmps44
  go_wp2_with (first | ((with_reducible refine gate_callee (f := 70) rfl ?_); refine goesL_ (some 4) rfl rfl Tryd.func70 (by kernel_rfl) rfl #[.int .u64 a0] rfl (by (try simp only [List.map_toArray, List.map_cons, List.map_nil]); first | done | rfl | (simp only [List.length_drop, List.length_take]; rfl)) ?_; (with_reducible refine (letterlockref2_Put.calls k a0 t232 _ A2.out).mono ?_); rintro e w4 ⟨rfl, hb⟩; refine ⟨_, rfl, ?_⟩; have n0_ := Aside0.mk (below_step (by repeat (first | (with_reducible first | exact HB.out | apply below_alloc | apply pw_below_drewN | apply below_drew1) | exact HB.out)) hb); clear HB; have HB := n0_; clear n0_; (try clear hb); (try clear hb2); (try clear hk); (try clear hi)))
  go_ret
  exact ⟨by first | rfl | (simp [errW_none, errW_some] <;> rfl) | (simp [*, errW_none, errW_some] <;> rfl), by repeat (first | (with_reducible first | exact HB.out | apply below_alloc | apply pw_below_drewN | apply below_drew1) | exact HB.out)⟩
 ·rw [if_neg c3] at H
  exact absurd H (by simp)
def letterlockref3_one.f (k : Nat) (a0 : ByteArray) (a1 : ByteArray) : Option (ByteArray × Int) := (letterlockref3_Right.f k a1).bind fun t233 => (if t233 = true then (if a0.size + a1.size ≤ 9223372036854775807 then ((letterlockref3_made.f k (a0 ++ a1)).bind fun bt234 => (some (bt234.1, bt234.2))) else (none)) else (some ((⟨#[]⟩ : ByteArray), 1)))
set_option maxHeartbeats 8000000 in
set_option maxRecDepth 100000 in
theorem letterlockref3_one.calls (k : Nat) (a0 : ByteArray) (a1 : ByteArray) (r1 : ByteArray) (r2 : Int) (w : World) (h : letterlockref3_one.f k a0 a1 = some (r1, r2)) :
  Calls Tryd.prog 61 #[.string a0, .string a1] w fun e w' => e = .returned (.tuple #[.string r1, .int .i64 r2]) ∧ Below w.heap.size w w' := by
 have HB := Aside0.mk (Below.refl w.heap.size w)
 have H : ((letterlockref3_Right.f k a1).bind fun t233 => (if t233 = true then (if a0.size + a1.size ≤ 9223372036854775807 then ((letterlockref3_made.f k (a0 ++ a1)).bind fun bt234 => (some (bt234.1, bt234.2))) else (none)) else (some ((⟨#[]⟩ : ByteArray), 1)))) = some (r1, r2) := h
 clear h
 replace H := Option.bind_eq_some_iff.mp H
 obtain ⟨t233, A30, H⟩ := H
 replace H : (if t233 = true then (if a0.size + a1.size ≤ 9223372036854775807 then ((letterlockref3_made.f k (a0 ++ a1)).bind fun bt234 => (some (bt234.1, bt234.2))) else (none)) else (some ((⟨#[]⟩ : ByteArray), 1))) = some (r1, r2) := H
 have A3 := Aside0.mk A30
 clear A30
 by_cases c4 : t233 = true
 ·subst c4
  have H1 : (if a0.size + a1.size ≤ 9223372036854775807 then ((letterlockref3_made.f k (a0 ++ a1)).bind fun bt234 => (some (bt234.1, bt234.2))) else (none)) = some (r1, r2) := by rw [if_pos rfl] at H; exact H
  clear H
  have H := H1
  clear H1
  by_cases c5 : a0.size + a1.size ≤ 9223372036854775807
  ·rw [if_pos c5] at H
   have c5b0 := eq_true c5
   have c5b1 : decide (a0.size + a1.size ≤ 9223372036854775807) = true := decide_eq_true c5
   try have c5b2 : (9223372036854775807 < a0.size + a1.size) = False := eq_false (Nat.not_lt.2 c5)
   replace H := Option.bind_eq_some_iff.mp H
   obtain ⟨⟨t234, t235⟩, A60, H⟩ := H
   replace H : (some (t234, t235)) = some (r1, r2) := H
   have A6 := Aside0.mk A60
   clear A60
   simp only [Option.some.injEq, Prod.mk.injEq] at H
   obtain ⟨rfl, rfl⟩ := H
   go_enter Tryd.func61, Tryd.ntmps61
   go_wp2_with (first | ((with_reducible refine gate_callee (f := 78) rfl ?_); refine goesL_ (some 7) rfl rfl Tryd.func78 (by kernel_rfl) rfl #[.string a1] rfl (by (try simp only [List.map_toArray, List.map_cons, List.map_nil]); first | done | rfl | (simp only [List.length_drop, List.length_take]; rfl)) ?_; (with_reducible refine (letterlockref3_Right.calls k a1 true _ A3.out).mono ?_); rintro e w7 ⟨rfl, hb⟩; refine ⟨_, rfl, ?_⟩; have n0_ := Aside0.mk (below_step (by repeat (first | (with_reducible first | exact HB.out | apply below_alloc | apply pw_below_drewN | apply below_drew1) | exact HB.out)) hb); clear HB; have HB := n0_; clear n0_; (try clear hb); (try clear hb2); (try clear hk); (try clear hi)) | ((with_reducible refine gate_callee (f := 67) rfl ?_); refine goesL_ (some 12) rfl rfl Tryd.func67 (by kernel_rfl) rfl #[.string (a0 ++ a1)] rfl (by (try simp only [List.map_toArray, List.map_cons, List.map_nil]); first | done | rfl | (simp only [List.length_drop, List.length_take]; rfl)) ?_; (with_reducible refine (letterlockref3_made.calls k (a0 ++ a1) t234 t235 _ A6.out).mono ?_); rintro e w8 ⟨rfl, hb⟩; refine ⟨_, rfl, ?_⟩; have n0_ := Aside0.mk (below_step (by repeat (first | (with_reducible first | exact HB.out | apply below_alloc | apply pw_below_drewN | apply below_drew1) | exact HB.out)) hb); clear HB; have HB := n0_; clear n0_; (try clear hb); (try clear hb2); (try clear hk); (try clear hi)))
   go_ret2
   exact ⟨by first | rfl | (simp [errW_none, errW_some] <;> rfl) | (simp [*, errW_none, errW_some] <;> rfl), by repeat (first | (with_reducible first | exact HB.out | apply below_alloc | apply pw_below_drewN | apply below_drew1) | exact HB.out)⟩
  ·rw [if_neg c5] at H
   exact absurd H (by simp)
 ·replace c4 := Bool.eq_false_iff.mpr c4
  subst c4
  have H1 : (some ((⟨#[]⟩ : ByteArray), 1)) = some (r1, r2) := by rw [if_neg (show ¬ (false = true) by decide)] at H; exact H
  clear H
  have H := H1
  clear H1
  simp only [Option.some.injEq, Prod.mk.injEq] at H
  obtain ⟨rfl, rfl⟩ := H
  go_enter Tryd.func61, Tryd.ntmps61
  go_wp2_with (first | ((with_reducible refine gate_callee (f := 78) rfl ?_); refine goesL_ (some 7) rfl rfl Tryd.func78 (by kernel_rfl) rfl #[.string a1] rfl (by (try simp only [List.map_toArray, List.map_cons, List.map_nil]); first | done | rfl | (simp only [List.length_drop, List.length_take]; rfl)) ?_; (with_reducible refine (letterlockref3_Right.calls k a1 false _ A3.out).mono ?_); rintro e w9 ⟨rfl, hb⟩; refine ⟨_, rfl, ?_⟩; have n0_ := Aside0.mk (below_step (by repeat (first | (with_reducible first | exact HB.out | apply below_alloc | apply pw_below_drewN | apply below_drew1) | exact HB.out)) hb); clear HB; have HB := n0_; clear n0_; (try clear hb); (try clear hb2); (try clear hk); (try clear hi)))
  go_ret2
  exact ⟨by first | rfl | (simp [errW_none, errW_some] <;> rfl) | (simp [*, errW_none, errW_some] <;> rfl), by repeat (first | (with_reducible first | exact HB.out | apply below_alloc | apply pw_below_drewN | apply below_drew1) | exact HB.out)⟩
def letterlockref3_OfHash.f (k : Nat) (a0 : ByteArray) : Option (ByteArray × Int) := (letterlockref3_one.f k (⟨#[104]⟩ : ByteArray) a0).bind fun bt236 => (some (bt236.1, bt236.2))
set_option maxHeartbeats 8000000 in
set_option maxRecDepth 100000 in
theorem letterlockref3_OfHash.calls (k : Nat) (a0 : ByteArray) (r1 : ByteArray) (r2 : Int) (w : World) (h : letterlockref3_OfHash.f k a0 = some (r1, r2)) :
  Calls Tryd.prog 54 #[.string a0] w fun e w' => e = .returned (.tuple #[.string r1, .int .i64 r2]) ∧ Below w.heap.size w w' := by
 have HB := Aside0.mk (Below.refl w.heap.size w)
 have H : ((letterlockref3_one.f k (⟨#[104]⟩ : ByteArray) a0).bind fun bt236 => (some (bt236.1, bt236.2))) = some (r1, r2) := h
 clear h
 replace H := Option.bind_eq_some_iff.mp H
 obtain ⟨⟨t236, t237⟩, A20, H⟩ := H
 replace H : (some (t236, t237)) = some (r1, r2) := H
 have A2 := Aside0.mk A20
 clear A20
 simp only [Option.some.injEq, Prod.mk.injEq] at H
 obtain ⟨rfl, rfl⟩ := H
 go_enter Tryd.func54, Tryd.ntmps54
 go_wp2_with (first | ((with_reducible refine gate_callee (f := 61) rfl ?_); refine goesL_ (some 5) rfl rfl Tryd.func61 (by kernel_rfl) rfl #[.string (⟨#[104]⟩ : ByteArray), .string a0] rfl (by (try simp only [List.map_toArray, List.map_cons, List.map_nil]); first | done | rfl | (simp only [List.length_drop, List.length_take]; rfl)) ?_; (with_reducible refine (letterlockref3_one.calls k (⟨#[104]⟩ : ByteArray) a0 t236 t237 _ A2.out).mono ?_); rintro e w3 ⟨rfl, hb⟩; refine ⟨_, rfl, ?_⟩; have n0_ := Aside0.mk (below_step (by repeat (first | (with_reducible first | exact HB.out | apply below_alloc | apply pw_below_drewN | apply below_drew1) | exact HB.out)) hb); clear HB; have HB := n0_; clear n0_; (try clear hb); (try clear hb2); (try clear hk); (try clear hi)))
 go_ret2
 exact ⟨by first | rfl | (simp [errW_none, errW_some] <;> rfl) | (simp [*, errW_none, errW_some] <;> rfl), by repeat (first | (with_reducible first | exact HB.out | apply below_alloc | apply pw_below_drewN | apply below_drew1) | exact HB.out)⟩
def letterlockref3_OfPublic.f (k : Nat) (a0 : ByteArray) : Option (ByteArray × Int) := (letterlockref3_one.f k (⟨#[117]⟩ : ByteArray) a0).bind fun bt257 => (some (bt257.1, bt257.2))
set_option maxHeartbeats 8000000 in
set_option maxRecDepth 100000 in
theorem letterlockref3_OfPublic.calls (k : Nat) (a0 : ByteArray) (r1 : ByteArray) (r2 : Int) (w : World) (h : letterlockref3_OfPublic.f k a0 = some (r1, r2)) :
  Calls Tryd.prog 37 #[.string a0] w fun e w' => e = .returned (.tuple #[.string r1, .int .i64 r2]) ∧ Below w.heap.size w w' := by
 have HB := Aside0.mk (Below.refl w.heap.size w)
 have H : ((letterlockref3_one.f k (⟨#[117]⟩ : ByteArray) a0).bind fun bt257 => (some (bt257.1, bt257.2))) = some (r1, r2) := h
 clear h
 replace H := Option.bind_eq_some_iff.mp H
 obtain ⟨⟨t257, t258⟩, A20, H⟩ := H
 replace H : (some (t257, t258)) = some (r1, r2) := H
 have A2 := Aside0.mk A20
 clear A20
 simp only [Option.some.injEq, Prod.mk.injEq] at H
 obtain ⟨rfl, rfl⟩ := H
 go_enter Tryd.func37, Tryd.ntmps37
 go_wp2_with (first | ((with_reducible refine gate_callee (f := 61) rfl ?_); refine goesL_ (some 5) rfl rfl Tryd.func61 (by kernel_rfl) rfl #[.string (⟨#[117]⟩ : ByteArray), .string a0] rfl (by (try simp only [List.map_toArray, List.map_cons, List.map_nil]); first | done | rfl | (simp only [List.length_drop, List.length_take]; rfl)) ?_; (with_reducible refine (letterlockref3_one.calls k (⟨#[117]⟩ : ByteArray) a0 t257 t258 _ A2.out).mono ?_); rintro e w3 ⟨rfl, hb⟩; refine ⟨_, rfl, ?_⟩; have n0_ := Aside0.mk (below_step (by repeat (first | (with_reducible first | exact HB.out | apply below_alloc | apply pw_below_drewN | apply below_drew1) | exact HB.out)) hb); clear HB; have HB := n0_; clear n0_; (try clear hb); (try clear hb2); (try clear hk); (try clear hi)))
 go_ret2
 exact ⟨by first | rfl | (simp [errW_none, errW_some] <;> rfl) | (simp [*, errW_none, errW_some] <;> rfl), by repeat (first | (with_reducible first | exact HB.out | apply below_alloc | apply pw_below_drewN | apply below_drew1) | exact HB.out)⟩
end Go.Proofs.YtodiffgpefidoaaDoor.P

