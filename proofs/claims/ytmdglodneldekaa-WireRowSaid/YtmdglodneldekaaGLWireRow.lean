/- Printed for this claim by wip/myprint.py out of the translation: Lean functions with the answers of the Go functions, and proofs that the Go code comes to them. Lean checks it. -/
import Derived.Test.YtmdglodneldekaaG0
import Derived.Test.YtmdglodneldekaaGLaw2
import Derived.Test.YtmdglodneldekaaGWire
import Derived.Test.YtmdglodneldekaaXTake
namespace Go.Proofs.Ytmdglodneldekaa.P
open Go.RowKit Go.Proofs.YtmdglodneldekaaW.PrintWords Go.Proofs.YtmdglodneldekaaW.PrintLast Go.Proofs.YtmdglodneldekaaW.PrintMore
attribute [local go_sem] max2_int min2_int max_two min_two max_three min_three max_four min_four   -- for this text's walks alone
set_option linter.unusedVariables false
set_option linter.unusedSimpArgs false

/-! ### letterlocklaw2_WireRow: function 9 -/
mutual
def letterlocklaw2_WireRow.j0 : Nat → List ByteArray → ByteArray → Bool → Bool → Option (Bool)
  | 0, _, _, _, _ => none
  | k + 1, x0, x1, x5, x30 => if x30 = true then (some x5) else ((wire_PutAll.f k x0).bind fun t266 => (if t266.size + x1.size ≤ 9223372036854775807 then ((wire_Take.f (t266 ++ x1)).bind fun bt267 => (if bt267.2.2 = 0 then (letterlocklaw2_WireRow.j1 k x0 x1 (t266 ++ x1) bt267.2.1 (bt267.1 != (IntKind.u64.wrap ((x0.length : Int))))) else (letterlocklaw2_WireRow.j1 k x0 x1 (t266 ++ x1) bt267.2.1 true))) else (none)))
def letterlocklaw2_WireRow.j1 : Nat → List ByteArray → ByteArray → ByteArray → ByteArray → Bool → Option (Bool)
  | 0, _, _, _, _, _ => none
  | k + 1, x0, x1, x7, x9, x50 => if x50 = true then (some false) else (letterlocklaw2_WireRow.l0 k x0 x1 x7 x9 0)
def letterlocklaw2_WireRow.l0 : Nat → List ByteArray → ByteArray → ByteArray → ByteArray → Int → Option (Bool)
  | 0, _, _, _, _, _ => none
  | k + 1, x0, x1, x7, x9, x11 => if x11 < (x0.length : Int) then (if 0 ≤ x11 then ((wire_TakeText.f k x9 ((rdOf ByteArray.empty x0 x11).size : Int)).bind fun bt271 => (if bt271.2.2 = 0 then (if bt271.1.toList = (rdOf ByteArray.empty x0 x11).toList then (letterlocklaw2_WireRow.l0 k x0 x1 x7 bt271.2.1 (wrap64 (x11 + 1))) else (some false)) else (some false))) else (none)) else ((wire_TakeAll.f k x7 (x0.length : Int) 4000).bind fun bt275 => (if x9.toList = x1.toList then (some ((bt275.2 == 0) == (x1.toList == ([] : List UInt8)))) else (some false)))
end
def letterlocklaw2_WireRow.f (k : Nat) (l0 : List ByteArray) (a1 : ByteArray) : Option (Bool) := (letterlocklaw2_shown.f k).bind fun t264 => ((letterlocklaw2_small.f k l0).bind fun t265 => (if t264 = true then (if t265 = true then (letterlocklaw2_WireRow.j0 k l0 a1 t264 (decide ((a1.size : Int) > 1000))) else (letterlocklaw2_WireRow.j0 k l0 a1 t264 true)) else (letterlocklaw2_WireRow.j0 k l0 a1 t264 true)))
theorem letterlocklaw2_WireRow.mono_l : ∀ k, (∀ y0 y1 y2 y3, LeO (letterlocklaw2_WireRow.j0 k y0 y1 y2 y3) (letterlocklaw2_WireRow.j0 (k + 1) y0 y1 y2 y3)) ∧ (∀ y0 y1 y2 y3 y4, LeO (letterlocklaw2_WireRow.j1 k y0 y1 y2 y3 y4) (letterlocklaw2_WireRow.j1 (k + 1) y0 y1 y2 y3 y4)) ∧ (∀ y0 y1 y2 y3 y4, LeO (letterlocklaw2_WireRow.l0 k y0 y1 y2 y3 y4) (letterlocklaw2_WireRow.l0 (k + 1) y0 y1 y2 y3 y4))
  | 0 => ⟨fun _ _ _ _ r h => by simp [letterlocklaw2_WireRow.j0] at h, fun _ _ _ _ _ r h => by simp [letterlocklaw2_WireRow.j1] at h, fun _ _ _ _ _ r h => by simp [letterlocklaw2_WireRow.l0] at h⟩
  | k + 1 => by
    obtain ⟨ih0, ih1, ih2⟩ := letterlocklaw2_WireRow.mono_l k
    refine ⟨?_, ?_, ?_⟩
    · intro y0 y1 y2 y3
      unfold letterlocklaw2_WireRow.j0
      repeat' first
      | (with_reducible exact ih0 _ _ _ _)
      | (with_reducible exact ih1 _ _ _ _ _)
      | (with_reducible exact ih2 _ _ _ _ _)
      | (with_reducible exact letterlocklaw2_shown.mono _)
      | (with_reducible exact letterlocklaw2_small.mono _ _)
      | (with_reducible exact wire_PutAll.mono _ _)
      | (with_reducible exact wire_TakeAll.mono _ _ _ _)
      | (with_reducible exact wire_TakeText.mono _ _ _)
      | (with_reducible exact LeO.refl _)
      | (with_reducible exact LeO.none _)
      | (with_reducible refine LeO.ite ?_ ?_)
      | (with_reducible refine LeO.bind ?_ (fun _ => ?_))
      | exact ih0 _ _ _ _
      | exact ih1 _ _ _ _ _
      | exact ih2 _ _ _ _ _
      | exact letterlocklaw2_shown.mono _
      | exact letterlocklaw2_small.mono _ _
      | exact wire_PutAll.mono _ _
      | exact wire_TakeAll.mono _ _ _ _
      | exact wire_TakeText.mono _ _ _
      | exact LeO.none _
      | refine LeO.ite ?_ ?_
      | refine LeO.bind ?_ (fun _ => ?_)
    · intro y0 y1 y2 y3 y4
      unfold letterlocklaw2_WireRow.j1
      repeat' first
      | (with_reducible exact ih0 _ _ _ _)
      | (with_reducible exact ih1 _ _ _ _ _)
      | (with_reducible exact ih2 _ _ _ _ _)
      | (with_reducible exact letterlocklaw2_shown.mono _)
      | (with_reducible exact letterlocklaw2_small.mono _ _)
      | (with_reducible exact wire_PutAll.mono _ _)
      | (with_reducible exact wire_TakeAll.mono _ _ _ _)
      | (with_reducible exact wire_TakeText.mono _ _ _)
      | (with_reducible exact LeO.refl _)
      | (with_reducible exact LeO.none _)
      | (with_reducible refine LeO.ite ?_ ?_)
      | (with_reducible refine LeO.bind ?_ (fun _ => ?_))
      | exact ih0 _ _ _ _
      | exact ih1 _ _ _ _ _
      | exact ih2 _ _ _ _ _
      | exact letterlocklaw2_shown.mono _
      | exact letterlocklaw2_small.mono _ _
      | exact wire_PutAll.mono _ _
      | exact wire_TakeAll.mono _ _ _ _
      | exact wire_TakeText.mono _ _ _
      | exact LeO.none _
      | refine LeO.ite ?_ ?_
      | refine LeO.bind ?_ (fun _ => ?_)
    · intro y0 y1 y2 y3 y4
      unfold letterlocklaw2_WireRow.l0
      repeat' first
      | (with_reducible exact ih0 _ _ _ _)
      | (with_reducible exact ih1 _ _ _ _ _)
      | (with_reducible exact ih2 _ _ _ _ _)
      | (with_reducible exact letterlocklaw2_shown.mono _)
      | (with_reducible exact letterlocklaw2_small.mono _ _)
      | (with_reducible exact wire_PutAll.mono _ _)
      | (with_reducible exact wire_TakeAll.mono _ _ _ _)
      | (with_reducible exact wire_TakeText.mono _ _ _)
      | (with_reducible exact LeO.refl _)
      | (with_reducible exact LeO.none _)
      | (with_reducible refine LeO.ite ?_ ?_)
      | (with_reducible refine LeO.bind ?_ (fun _ => ?_))
      | exact ih0 _ _ _ _
      | exact ih1 _ _ _ _ _
      | exact ih2 _ _ _ _ _
      | exact letterlocklaw2_shown.mono _
      | exact letterlocklaw2_small.mono _ _
      | exact wire_PutAll.mono _ _
      | exact wire_TakeAll.mono _ _ _ _
      | exact wire_TakeText.mono _ _ _
      | exact LeO.none _
      | refine LeO.ite ?_ ?_
      | refine LeO.bind ?_ (fun _ => ?_)
theorem letterlocklaw2_WireRow.mono : ∀ a0 a1 k, LeO (letterlocklaw2_WireRow.f k a0 a1) (letterlocklaw2_WireRow.f (k + 1) a0 a1) := by
  intro a0 a1 k
  obtain ⟨ih0, ih1, ih2⟩ := letterlocklaw2_WireRow.mono_l k
  unfold letterlocklaw2_WireRow.f
  repeat' first
      | (with_reducible exact ih0 _ _ _ _)
      | (with_reducible exact ih1 _ _ _ _ _)
      | (with_reducible exact ih2 _ _ _ _ _)
      | (with_reducible exact letterlocklaw2_shown.mono _)
      | (with_reducible exact letterlocklaw2_small.mono _ _)
      | (with_reducible exact wire_PutAll.mono _ _)
      | (with_reducible exact wire_TakeAll.mono _ _ _ _)
      | (with_reducible exact wire_TakeText.mono _ _ _)
      | (with_reducible exact LeO.refl _)
      | (with_reducible exact LeO.none _)
      | (with_reducible refine LeO.ite ?_ ?_)
      | (with_reducible refine LeO.bind ?_ (fun _ => ?_))
      | exact ih0 _ _ _ _
      | exact ih1 _ _ _ _ _
      | exact ih2 _ _ _ _ _
      | exact letterlocklaw2_shown.mono _
      | exact letterlocklaw2_small.mono _ _
      | exact wire_PutAll.mono _ _
      | exact wire_TakeAll.mono _ _ _ _
      | exact wire_TakeText.mono _ _ _
      | exact LeO.none _
      | refine LeO.ite ?_ ?_
      | refine LeO.bind ?_ (fun _ => ?_)
set_option maxHeartbeats 8000000 in
set_option maxRecDepth 100000 in
theorem letterlocklaw2_WireRow.calls (k : Nat) (A0 : Option Addr) (c0 : Nat) (l0 : List ByteArray) (a1 : ByteArray) (r : Bool) (w : World) (hr0 : Kd.C Kd.string w A0 l0.length l0) (hc0 : l0.length ≤ c0) (h : letterlocklaw2_WireRow.f k l0 a1 = some r) :
    Calls Try.prog 9 #[.slice A0 l0.length c0, .string a1] w fun e w' => e = .returned (.bool r) ∧ Below w.heap.size w w' := by
  have HR0 := Aside0.mk hr0
  have HC0 := Aside0.mk hc0
  clear hr0 hc0
  have HB := Aside0.mk (Below.refl w.heap.size w)
  have H : ((letterlocklaw2_shown.f k).bind fun t264 => ((letterlocklaw2_small.f k l0).bind fun t265 => (if t264 = true then (if t265 = true then (letterlocklaw2_WireRow.j0 k l0 a1 t264 (decide ((a1.size : Int) > 1000))) else (letterlocklaw2_WireRow.j0 k l0 a1 t264 true)) else (letterlocklaw2_WireRow.j0 k l0 a1 t264 true)))) = some r := h
  clear h
  replace H := Option.bind_eq_some_iff.mp H
  obtain ⟨t264, A30, H⟩ := H
  replace H : ((letterlocklaw2_small.f k l0).bind fun t265 => (if t264 = true then (if t265 = true then (letterlocklaw2_WireRow.j0 k l0 a1 t264 (decide ((a1.size : Int) > 1000))) else (letterlocklaw2_WireRow.j0 k l0 a1 t264 true)) else (letterlocklaw2_WireRow.j0 k l0 a1 t264 true))) = some r := H
  have A3 := Aside0.mk A30
  clear A30
  replace H := Option.bind_eq_some_iff.mp H
  obtain ⟨t265, A40, H⟩ := H
  replace H : (if t264 = true then (if t265 = true then (letterlocklaw2_WireRow.j0 k l0 a1 t264 (decide ((a1.size : Int) > 1000))) else (letterlocklaw2_WireRow.j0 k l0 a1 t264 true)) else (letterlocklaw2_WireRow.j0 k l0 a1 t264 true)) = some r := H
  have A4 := Aside0.mk A40
  clear A40
  have HC5 := Aside0.mk H
  clear H
  go_enter Try.func9, Try.ntmps9
  go_upto_region 3 with (first | ((with_reducible refine gate_callee (f := 10) rfl ?_); refine goesL_ (some 17) rfl rfl Try.func10 (by kernel_rfl) rfl #[] rfl (by (try simp only [List.map_toArray, List.map_cons, List.map_nil]); first | done | rfl | (simp only [List.length_drop, List.length_take]; rfl)) ?_; (with_reducible refine (letterlocklaw2_shown.calls k  t264 _ A3.out).mono ?_); rintro e w6 ⟨rfl, hb⟩; refine ⟨_, rfl, ?_⟩; have n0_ := Aside0.mk (below_step (by repeat (first | (with_reducible first | exact HB.out | apply below_alloc | apply pw_below_drewN | apply below_drew1) | exact HB.out)) hb); clear HB; have HB := n0_; clear n0_; (try clear hb); (try clear hb2); (try clear hk); (try clear hi)) | ((with_reducible refine gate_callee (f := 19) rfl ?_); refine goesL_ (some 19) rfl rfl Try.func19 (by kernel_rfl) rfl #[.slice A0 l0.length c0] rfl (by (try simp only [List.map_toArray, List.map_cons, List.map_nil]); first | done | rfl | (simp only [List.length_drop, List.length_take]; rfl)) ?_; (with_reducible refine (letterlocklaw2_small.calls k _ _ l0 t265 _ ?side1 ?side2 A4.out).mono ?_); (case side1 => repeat (first | exact (Kd.C_below HR0.out HB.out) | (with_reducible refine Kd.C_alloc ?_ _) | (with_reducible refine Kd.C_drewN ?_ _) | (with_reducible refine Kd.C_drew ?_))); (case side2 => exact HC0.out); rintro e w' ⟨rfl, ⟨nd, rfl⟩⟩; refine ⟨_, rfl, ?_⟩))
  (try simp only [Act.put, List.setIfInBounds_toArray, List.set_cons_zero, List.set_cons_succ])
  go_cut [30] (fun v30 wc => ∃ (kq : Nat) (x30_4 : Bool), v30 = .bool x30_4 ∧ Aside0 (letterlocklaw2_WireRow.j0 kq l0 a1 t264 x30_4 = some r) ∧ Aside0 (kq ≤ k) ∧ Aside0 (Below w.heap.size w wc))
  case first =>
    have H := HC5.out
    clear HC5
    by_cases c7 : t264 = true
    · subst c7
      have H1 : (if t265 = true then (letterlocklaw2_WireRow.j0 k l0 a1 true (decide ((a1.size : Int) > 1000))) else (letterlocklaw2_WireRow.j0 k l0 a1 true true)) = some r := by rw [if_pos rfl] at H; exact H
      clear H
      have H := H1
      clear H1
      by_cases c8 : t265 = true
      · subst c8
        have H1 : (letterlocklaw2_WireRow.j0 k l0 a1 true (decide ((a1.size : Int) > 1000))) = some r := by rw [if_pos rfl] at H; exact H
        clear H
        have H := H1
        clear H1
        have H' := Aside0.mk H
        clear H
        go_wp2
        go_meet
        case rel => exact ⟨_, (decide ((a1.size : Int) > 1000)), (by first | rfl | (simp; done) | (simp [*]; done) | (simp; exact isEmpty_ne _)), H', ⟨by first | omega | exact Nat.le_refl _⟩, ⟨by repeat (first | (with_reducible first | exact HB.out | apply below_alloc | apply pw_below_drewN | apply below_drew1) | exact HB.out)⟩⟩
      · replace c8 := Bool.eq_false_iff.mpr c8
        subst c8
        have H1 : (letterlocklaw2_WireRow.j0 k l0 a1 true true) = some r := by rw [if_neg (show ¬ (false = true) by decide)] at H; exact H
        clear H
        have H := H1
        clear H1
        have H' := Aside0.mk H
        clear H
        go_wp2
        go_meet
        case rel => exact ⟨_, (true), (by first | rfl | (simp; done) | (simp [*]; done) | (simp; exact isEmpty_ne _)), H', ⟨by first | omega | exact Nat.le_refl _⟩, ⟨by repeat (first | (with_reducible first | exact HB.out | apply below_alloc | apply pw_below_drewN | apply below_drew1) | exact HB.out)⟩⟩
    · replace c7 := Bool.eq_false_iff.mpr c7
      subst c7
      have H1 : (letterlocklaw2_WireRow.j0 k l0 a1 false true) = some r := by rw [if_neg (show ¬ (false = true) by decide)] at H; exact H
      clear H
      have H := H1
      clear H1
      have H' := Aside0.mk H
      clear H
      go_wp2
      go_meet
      case rel => exact ⟨_, (true), (by first | rfl | (simp; done) | (simp [*]; done) | (simp; exact isEmpty_ne _)), H', ⟨by first | omega | exact Nat.le_refl _⟩, ⟨by repeat (first | (with_reducible first | exact HB.out | apply below_alloc | apply pw_below_drewN | apply below_drew1) | exact HB.out)⟩⟩
  case rest =>
    clear HC5
    try clear c1
    try clear p2
    try clear c7
    try clear c8
    obtain ⟨kq, x30_4, rfl, HA, HJ4, HB⟩ := hcut
    cases kq with
    | zero => exact absurd HA.out (by simp [letterlocklaw2_WireRow.j0])
    | succ kj4 =>
      have H := HA.out
      clear HA
      simp only [letterlocklaw2_WireRow.j0] at H
      by_cases c9 : x30_4 = true
      · subst c9
        have H1 : (some t264) = some r := by rw [if_pos rfl] at H; exact H
        clear H
        have H := H1
        clear H1
        obtain rfl := Option.some.inj H
        go_wp2
        go_ret
        exact ⟨by first | rfl | (simp [errW_none, errW_some] <;> rfl) | (simp [*, errW_none, errW_some] <;> rfl), by repeat (first | (with_reducible first | exact HB.out | apply below_alloc | apply pw_below_drewN | apply below_drew1) | exact HB.out)⟩
      · replace c9 := Bool.eq_false_iff.mpr c9
        subst c9
        have H1 : ((wire_PutAll.f kj4 l0).bind fun t266 => (if t266.size + a1.size ≤ 9223372036854775807 then ((wire_Take.f (t266 ++ a1)).bind fun bt267 => (if bt267.2.2 = 0 then (letterlocklaw2_WireRow.j1 kj4 l0 a1 (t266 ++ a1) bt267.2.1 (bt267.1 != (IntKind.u64.wrap ((l0.length : Int))))) else (letterlocklaw2_WireRow.j1 kj4 l0 a1 (t266 ++ a1) bt267.2.1 true))) else (none))) = some r := by rw [if_neg (show ¬ (false = true) by decide)] at H; exact H
        clear H
        have H := H1
        clear H1
        replace H := Option.bind_eq_some_iff.mp H
        obtain ⟨t266, A100, H⟩ := H
        replace H : (if t266.size + a1.size ≤ 9223372036854775807 then ((wire_Take.f (t266 ++ a1)).bind fun bt267 => (if bt267.2.2 = 0 then (letterlocklaw2_WireRow.j1 kj4 l0 a1 (t266 ++ a1) bt267.2.1 (bt267.1 != (IntKind.u64.wrap ((l0.length : Int))))) else (letterlocklaw2_WireRow.j1 kj4 l0 a1 (t266 ++ a1) bt267.2.1 true))) else (none)) = some r := H
        have A10 := Aside0.mk A100
        clear A100
        by_cases c11 : t266.size + a1.size ≤ 9223372036854775807
        · rw [if_pos c11] at H
          have c11b0 := eq_true c11
          have c11b1 : decide (t266.size + a1.size ≤ 9223372036854775807) = true := decide_eq_true c11
          try have c11b2 : (9223372036854775807 < t266.size + a1.size) = False := eq_false (Nat.not_lt.2 c11)
          replace H := Option.bind_eq_some_iff.mp H
          obtain ⟨⟨t267, t268, t269⟩, A120, H⟩ := H
          replace H : (if t269 = 0 then (letterlocklaw2_WireRow.j1 kj4 l0 a1 (t266 ++ a1) t268 (t267 != (IntKind.u64.wrap ((l0.length : Int))))) else (letterlocklaw2_WireRow.j1 kj4 l0 a1 (t266 ++ a1) t268 true)) = some r := H
          have A12 := Aside0.mk A120
          clear A120
          have HC13 := Aside0.mk H
          clear H
          go_upto_region 7 with (first | ((with_reducible refine gate_callee (f := 23) rfl ?_); refine goesL_ (some 33) rfl rfl Try.func23 (by kernel_rfl) rfl #[.slice A0 l0.length c0] rfl (by (try simp only [List.map_toArray, List.map_cons, List.map_nil]); first | done | rfl | (simp only [List.length_drop, List.length_take]; rfl)) ?_; (with_reducible refine (wire_PutAll.calls kj4 _ _ l0 t266 _ ?side1 ?side2 A10.out).mono ?_); (case side1 => repeat (first | exact (Kd.C_below HR0.out HB.out) | (with_reducible refine Kd.C_alloc ?_ _) | (with_reducible refine Kd.C_drewN ?_ _) | (with_reducible refine Kd.C_drew ?_))); (case side2 => exact HC0.out); rintro e w14 ⟨rfl, hb⟩; refine ⟨_, rfl, ?_⟩; have n0_ := Aside0.mk (below_step (by repeat (first | (with_reducible first | exact HB.out | apply below_alloc | apply pw_below_drewN | apply below_drew1) | exact HB.out)) hb); clear HB; have HB := n0_; clear n0_; (try clear hb); (try clear hb2); (try clear hk); (try clear hi)) | ((with_reducible refine gate_callee (f := 12) rfl ?_); refine goesL_ (some 38) rfl rfl Try.func12 (by kernel_rfl) rfl #[.string (t266 ++ a1)] rfl (by (try simp only [List.map_toArray, List.map_cons, List.map_nil]); first | done | rfl | (simp only [List.length_drop, List.length_take]; rfl)) ?_; (with_reducible refine (wire_Take.calls (t266 ++ a1) t267 t268 t269 _ A12.out).mono ?_); rintro e w15 ⟨rfl, hb⟩; refine ⟨_, rfl, ?_⟩; have n0_ := Aside0.mk (below_step (by repeat (first | (with_reducible first | exact HB.out | apply below_alloc | apply pw_below_drewN | apply below_drew1) | exact HB.out)) hb); clear HB; have HB := n0_; clear n0_; (try clear hb); (try clear hb2); (try clear hk); (try clear hi)))
          (try simp only [Act.put, List.setIfInBounds_toArray, List.set_cons_zero, List.set_cons_succ])
          go_cut [50] (fun v50 wc => ∃ (kq : Nat) (x50_12 : Bool), v50 = .bool x50_12 ∧ Aside0 (letterlocklaw2_WireRow.j1 kq l0 a1 (t266 ++ a1) t268 x50_12 = some r) ∧ Aside0 (kq ≤ kj4) ∧ Aside0 (Below w.heap.size w wc))
          case first =>
            have H := HC13.out
            clear HC13
            by_cases c16 : t269 = 0
            · rw [if_pos c16] at H
              have c16b0 : (t269 == 0) = true := beq_iff_eq.mpr c16
              have c16b1 : (t269 != 0) = false := bne_eq_false_iff_eq.mpr c16
              clear c16
              (first | rw [c16b0] | (simp only [i64_w, i32_w]; rw [c16b0]) | skip)
              have H' := Aside0.mk H
              clear H
              go_wp2
              go_meet
              case rel => exact ⟨_, ((t267 != (IntKind.u64.wrap ((l0.length : Int))))), (by first | rfl | (simp; done) | (simp [*]; done) | (simp; exact isEmpty_ne _)), H', ⟨by have := HJ4.out; first | omega | exact Nat.le_refl _⟩, ⟨by repeat (first | (with_reducible first | exact HB.out | apply below_alloc | apply pw_below_drewN | apply below_drew1) | exact HB.out)⟩⟩
            · rw [if_neg c16] at H
              have c16b0 : (t269 == 0) = false := beq_eq_false_iff_ne.mpr c16
              have c16b1 : (t269 != 0) = true := bne_iff_ne.mpr c16
              (first | rw [c16b0] | (simp only [i64_w, i32_w]; rw [c16b0]) | skip)
              have H' := Aside0.mk H
              clear H
              go_wp2
              go_meet
              case rel => exact ⟨_, (true), (by first | rfl | (simp; done) | (simp [*]; done) | (simp; exact isEmpty_ne _)), H', ⟨by have := HJ4.out; first | omega | exact Nat.le_refl _⟩, ⟨by repeat (first | (with_reducible first | exact HB.out | apply below_alloc | apply pw_below_drewN | apply below_drew1) | exact HB.out)⟩⟩
          case rest =>
            clear HC13
            try clear c1
            try clear c2
            try clear p2
            try clear c7
            try clear c8
            try clear c9
            try clear c10
            try clear c11
            try clear c11b0
            try clear c11b1
            try clear c11b2
            try clear c12
            try clear c16
            try clear c16b0
            try clear c16b1
            try clear p2
            obtain ⟨kq, x50_12, rfl, HA, HJ12, HB⟩ := hcut
            cases kq with
            | zero => exact absurd HA.out (by simp [letterlocklaw2_WireRow.j1])
            | succ kj12 =>
              have H := HA.out
              clear HA
              simp only [letterlocklaw2_WireRow.j1] at H
              by_cases c17 : x50_12 = true
              · subst c17
                have H1 : (some false) = some r := by rw [if_pos rfl] at H; exact H
                clear H
                have H := H1
                clear H1
                obtain rfl := Option.some.inj H
                go_wp2
                go_ret
                exact ⟨by first | rfl | (simp [errW_none, errW_some] <;> rfl) | (simp [*, errW_none, errW_some] <;> rfl), by repeat (first | (with_reducible first | exact HB.out | apply below_alloc | apply pw_below_drewN | apply below_drew1) | exact HB.out)⟩
              · replace c17 := Bool.eq_false_iff.mpr c17
                subst c17
                have H1 : (letterlocklaw2_WireRow.l0 kj12 l0 a1 (t266 ++ a1) t268 0) = some r := by rw [if_neg (show ¬ (false = true) by decide)] at H; exact H
                clear H
                have H := H1
                clear H1
                have H' := Aside0.mk H
                clear H
                go_wp2
                go_loopg [9, 11] kj12 (fun kq v9 v11 w' => ∃ (x9_3 : ByteArray) (x11_3 : Int), v9 = .string x9_3 ∧ v11 = .int .i64 x11_3 ∧ Aside0 (letterlocklaw2_WireRow.l0 kq l0 a1 (t266 ++ a1) x9_3 x11_3 = some r) ∧ Aside0 (kq ≤ kj12) ∧ Aside0 (Below w.heap.size w w'))
                case atStart => exact ⟨(t268), (0), (by first | rfl | (simp; done) | (simp [*]; done) | (simp; exact isEmpty_ne _)), (by first | rfl | (simp; done) | (simp [*]; done) | (simp; exact isEmpty_ne _)), H', ⟨Nat.le_refl _⟩, ⟨by repeat (first | (with_reducible first | exact HB.out | apply below_alloc | apply pw_below_drewN | apply below_drew1) | exact HB.out)⟩⟩
                case round =>
                  clear H'
                  try clear c1
                  try clear c2
                  try clear p2
                  try clear c7
                  try clear c8
                  try clear c9
                  try clear c10
                  try clear c11
                  try clear c11b0
                  try clear c11b1
                  try clear c11b2
                  try clear c12
                  try clear c16
                  try clear c16b0
                  try clear c16b1
                  try clear c17
                  try clear p2
                  obtain ⟨x9_3, x11_3, rfl, rfl, HA, HK3, HB⟩ := hrel
                  cases gk with
                  | zero => exact absurd HA.out (by simp [letterlocklaw2_WireRow.l0])
                  | succ k3 =>
                    have H := HA.out
                    clear HA
                    simp only [letterlocklaw2_WireRow.l0] at H
                    by_cases c18 : x11_3 < (l0.length : Int)
                    · rw [if_pos c18] at H
                      have c18b0 : decide (x11_3 < (l0.length : Int)) = true := decide_eq_true c18
                      clear c18
                      by_cases c19 : 0 ≤ x11_3
                      · rw [if_pos c19] at H
                        have c19b0 : decide (0 ≤ x11_3) = true := decide_eq_true c19
                        clear c19
                        replace H := Option.bind_eq_some_iff.mp H
                        obtain ⟨⟨t271, t272, t273⟩, A200, H⟩ := H
                        replace H : (if t273 = 0 then (if t271.toList = (rdOf ByteArray.empty l0 x11_3).toList then (letterlocklaw2_WireRow.l0 k3 l0 a1 (t266 ++ a1) t272 (wrap64 (x11_3 + 1))) else (some false)) else (some false)) = some r := H
                        have A20 := Aside0.mk A200
                        clear A200
                        by_cases c21 : t273 = 0
                        · rw [if_pos c21] at H
                          have c21b0 : (t273 == 0) = true := beq_iff_eq.mpr c21
                          have c21b1 : (t273 != 0) = false := bne_eq_false_iff_eq.mpr c21
                          clear c21
                          by_cases c22 : t271.toList = (rdOf ByteArray.empty l0 x11_3).toList
                          · rw [if_pos c22] at H
                            have c22b0 : (t271.toList == (rdOf ByteArray.empty l0 x11_3).toList) = true := beq_iff_eq.mpr c22
                            have c22b1 : (t271.toList != (rdOf ByteArray.empty l0 x11_3).toList) = false := bne_eq_false_iff_eq.mpr c22
                            clear c22
                            have H' := Aside0.mk H
                            clear H
                            have p270 : 0 ≤ (x11_3 : Int) := of_decide_eq_true (by first | (with_reducible assumption) | assumption)
                            have q270 : x11_3 < (l0.length : Int) := of_decide_eq_true (by first | (with_reducible assumption) | assumption)
                            obtain ⟨ad270, e270, hx270_0⟩ := Kd.at_string HR0.out x11_3 p270 q270
                            cases e270
                            replace hx270_0 := (HB.out.cell (World.block_lt_of_cell? w _ hx270_0)).trans hx270_0
                            replace p270 := eq_true p270
                            replace q270 := eq_true q270
                            go_wp2_with (first | ((with_reducible refine gate_callee (f := 14) rfl ?_); refine goesL_ (some 64) rfl rfl Try.func14 (by kernel_rfl) rfl #[.string x9_3, .int .i64 ((rdOf ByteArray.empty l0 x11_3).size : Int)] rfl (by (try simp only [List.map_toArray, List.map_cons, List.map_nil]); first | done | rfl | (simp only [List.length_drop, List.length_take]; rfl)) ?_; (with_reducible refine (wire_TakeText.calls k3 x9_3 ((rdOf ByteArray.empty l0 x11_3).size : Int) t271 t272 t273 _ A20.out).mono ?_); rintro e w23 ⟨rfl, hb⟩; refine ⟨_, rfl, ?_⟩; have n0_ := Aside0.mk (below_step (by repeat (first | (with_reducible first | exact HB.out | apply below_alloc | apply pw_below_drewN | apply below_drew1) | exact HB.out)) hb); clear HB; have HB := n0_; clear n0_; (try clear hb); (try clear hb2); (try clear hk); (try clear hi); have p274 : 0 ≤ (x11_3 : Int) := of_decide_eq_true (by first | (with_reducible assumption) | assumption); have q274 : x11_3 < (l0.length : Int) := of_decide_eq_true (by first | (with_reducible assumption) | assumption); obtain ⟨ad274, e274, hx274_0⟩ := Kd.at_string HR0.out x11_3 p274 q274; obtain rfl : ad270 = ad274 := (by injection e274); replace hx274_0 := (HB.out.cell (World.block_lt_of_cell? w _ hx274_0)).trans hx274_0; replace p274 := eq_true p274; replace q274 := eq_true q274))
                            go_roundg k3
                            case measure => have := HJ4.out; have := HJ12.out; have := HK3.out; omega
                            case rel => exact ⟨(t272), (wrap64 (x11_3 + 1)), (by first | rfl | (simp; done) | (simp [*]; done) | (simp; exact isEmpty_ne _)), (by first | rfl | (simp; done) | (simp [*]; done) | (simp; exact isEmpty_ne _)), H', ⟨by have := HJ4.out; have := HJ12.out; have := HK3.out; omega⟩, ⟨by repeat (first | (with_reducible first | exact HB.out | apply below_alloc | apply pw_below_drewN | apply below_drew1) | exact HB.out)⟩⟩
                          · rw [if_neg c22] at H
                            have c22b0 : (t271.toList == (rdOf ByteArray.empty l0 x11_3).toList) = false := beq_eq_false_iff_ne.mpr c22
                            have c22b1 : (t271.toList != (rdOf ByteArray.empty l0 x11_3).toList) = true := bne_iff_ne.mpr c22
                            obtain rfl := Option.some.inj H
                            have p270 : 0 ≤ (x11_3 : Int) := of_decide_eq_true (by first | (with_reducible assumption) | assumption)
                            have q270 : x11_3 < (l0.length : Int) := of_decide_eq_true (by first | (with_reducible assumption) | assumption)
                            obtain ⟨ad270, e270, hx270_0⟩ := Kd.at_string HR0.out x11_3 p270 q270
                            cases e270
                            replace hx270_0 := (HB.out.cell (World.block_lt_of_cell? w _ hx270_0)).trans hx270_0
                            replace p270 := eq_true p270
                            replace q270 := eq_true q270
                            go_wp2_with (first | ((with_reducible refine gate_callee (f := 14) rfl ?_); refine goesL_ (some 64) rfl rfl Try.func14 (by kernel_rfl) rfl #[.string x9_3, .int .i64 ((rdOf ByteArray.empty l0 x11_3).size : Int)] rfl (by (try simp only [List.map_toArray, List.map_cons, List.map_nil]); first | done | rfl | (simp only [List.length_drop, List.length_take]; rfl)) ?_; (with_reducible refine (wire_TakeText.calls k3 x9_3 ((rdOf ByteArray.empty l0 x11_3).size : Int) t271 t272 t273 _ A20.out).mono ?_); rintro e w24 ⟨rfl, hb⟩; refine ⟨_, rfl, ?_⟩; have n0_ := Aside0.mk (below_step (by repeat (first | (with_reducible first | exact HB.out | apply below_alloc | apply pw_below_drewN | apply below_drew1) | exact HB.out)) hb); clear HB; have HB := n0_; clear n0_; (try clear hb); (try clear hb2); (try clear hk); (try clear hi); have p274 : 0 ≤ (x11_3 : Int) := of_decide_eq_true (by first | (with_reducible assumption) | assumption); have q274 : x11_3 < (l0.length : Int) := of_decide_eq_true (by first | (with_reducible assumption) | assumption); obtain ⟨ad274, e274, hx274_0⟩ := Kd.at_string HR0.out x11_3 p274 q274; obtain rfl : ad270 = ad274 := (by injection e274); replace hx274_0 := (HB.out.cell (World.block_lt_of_cell? w _ hx274_0)).trans hx274_0; replace p274 := eq_true p274; replace q274 := eq_true q274))
                            go_ret
                            exact ⟨by first | rfl | (simp [errW_none, errW_some] <;> rfl) | (simp [*, errW_none, errW_some] <;> rfl), by repeat (first | (with_reducible first | exact HB.out | apply below_alloc | apply pw_below_drewN | apply below_drew1) | exact HB.out)⟩
                        · rw [if_neg c21] at H
                          have c21b0 : (t273 == 0) = false := beq_eq_false_iff_ne.mpr c21
                          have c21b1 : (t273 != 0) = true := bne_iff_ne.mpr c21
                          obtain rfl := Option.some.inj H
                          have p270 : 0 ≤ (x11_3 : Int) := of_decide_eq_true (by first | (with_reducible assumption) | assumption)
                          have q270 : x11_3 < (l0.length : Int) := of_decide_eq_true (by first | (with_reducible assumption) | assumption)
                          obtain ⟨ad270, e270, hx270_0⟩ := Kd.at_string HR0.out x11_3 p270 q270
                          cases e270
                          replace hx270_0 := (HB.out.cell (World.block_lt_of_cell? w _ hx270_0)).trans hx270_0
                          replace p270 := eq_true p270
                          replace q270 := eq_true q270
                          go_wp2_with (first | ((with_reducible refine gate_callee (f := 14) rfl ?_); refine goesL_ (some 64) rfl rfl Try.func14 (by kernel_rfl) rfl #[.string x9_3, .int .i64 ((rdOf ByteArray.empty l0 x11_3).size : Int)] rfl (by (try simp only [List.map_toArray, List.map_cons, List.map_nil]); first | done | rfl | (simp only [List.length_drop, List.length_take]; rfl)) ?_; (with_reducible refine (wire_TakeText.calls k3 x9_3 ((rdOf ByteArray.empty l0 x11_3).size : Int) t271 t272 t273 _ A20.out).mono ?_); rintro e w25 ⟨rfl, hb⟩; refine ⟨_, rfl, ?_⟩; have n0_ := Aside0.mk (below_step (by repeat (first | (with_reducible first | exact HB.out | apply below_alloc | apply pw_below_drewN | apply below_drew1) | exact HB.out)) hb); clear HB; have HB := n0_; clear n0_; (try clear hb); (try clear hb2); (try clear hk); (try clear hi)))
                          go_ret
                          exact ⟨by first | rfl | (simp [errW_none, errW_some] <;> rfl) | (simp [*, errW_none, errW_some] <;> rfl), by repeat (first | (with_reducible first | exact HB.out | apply below_alloc | apply pw_below_drewN | apply below_drew1) | exact HB.out)⟩
                      · rw [if_neg c19] at H
                        exact absurd H (by simp)
                    · rw [if_neg c18] at H
                      have c18b0 : decide (x11_3 < (l0.length : Int)) = false := decide_eq_false c18
                      clear c18
                      replace H := Option.bind_eq_some_iff.mp H
                      obtain ⟨⟨t275, t276⟩, A260, H⟩ := H
                      replace H : (if x9_3.toList = a1.toList then (some ((t276 == 0) == (a1.toList == ([] : List UInt8)))) else (some false)) = some r := H
                      have A26 := Aside0.mk A260
                      clear A260
                      by_cases c27 : x9_3.toList = a1.toList
                      · rw [if_pos c27] at H
                        have c27b0 : (x9_3.toList == a1.toList) = true := beq_iff_eq.mpr c27
                        have c27b1 : (x9_3.toList != a1.toList) = false := bne_eq_false_iff_eq.mpr c27
                        clear c27
                        obtain rfl := Option.some.inj H
                        go_wp2_with (first | ((with_reducible refine gate_callee (f := 16) rfl ?_); refine goesL_ (some 83) rfl rfl Try.func16 (by kernel_rfl) rfl #[.string (t266 ++ a1), .int .i64 (l0.length : Int), .int .i64 4000] rfl (by (try simp only [List.map_toArray, List.map_cons, List.map_nil]); first | done | rfl | (simp only [List.length_drop, List.length_take]; rfl)) ?_; (with_reducible refine (wire_TakeAll.calls k3 (t266 ++ a1) (l0.length : Int) 4000 t275 t276 _ A26.out).mono ?_); rintro e w28 ⟨v277, rfl, ho0, hb⟩; refine ⟨_, rfl, ?_⟩; have n0_ := Aside0.mk (Kd.R_lower ho0 (below_size (by repeat (first | (with_reducible first | exact HB.out | apply below_alloc | apply pw_below_drewN | apply below_drew1) | exact HB.out)))); have n1_ := Aside0.mk (below_step (by repeat (first | (with_reducible first | exact HB.out | apply below_alloc | apply pw_below_drewN | apply below_drew1) | exact HB.out)) hb); clear HB; have HO278 := n0_; have HB := n1_; clear n0_ n1_; (try clear hb); (try clear hb2); (try clear hk); (try clear hi); (try clear ho0)))
                        go_ret
                        exact ⟨by first | rfl | (simp [errW_none, errW_some] <;> rfl) | (simp [*, errW_none, errW_some] <;> rfl), by repeat (first | (with_reducible first | exact HB.out | apply below_alloc | apply pw_below_drewN | apply below_drew1) | exact HB.out)⟩
                      · rw [if_neg c27] at H
                        have c27b0 : (x9_3.toList == a1.toList) = false := beq_eq_false_iff_ne.mpr c27
                        have c27b1 : (x9_3.toList != a1.toList) = true := bne_iff_ne.mpr c27
                        obtain rfl := Option.some.inj H
                        go_wp2_with (first | ((with_reducible refine gate_callee (f := 16) rfl ?_); refine goesL_ (some 83) rfl rfl Try.func16 (by kernel_rfl) rfl #[.string (t266 ++ a1), .int .i64 (l0.length : Int), .int .i64 4000] rfl (by (try simp only [List.map_toArray, List.map_cons, List.map_nil]); first | done | rfl | (simp only [List.length_drop, List.length_take]; rfl)) ?_; (with_reducible refine (wire_TakeAll.calls k3 (t266 ++ a1) (l0.length : Int) 4000 t275 t276 _ A26.out).mono ?_); rintro e w29 ⟨v277, rfl, ho0, hb⟩; refine ⟨_, rfl, ?_⟩; have n0_ := Aside0.mk (Kd.R_lower ho0 (below_size (by repeat (first | (with_reducible first | exact HB.out | apply below_alloc | apply pw_below_drewN | apply below_drew1) | exact HB.out)))); have n1_ := Aside0.mk (below_step (by repeat (first | (with_reducible first | exact HB.out | apply below_alloc | apply pw_below_drewN | apply below_drew1) | exact HB.out)) hb); clear HB; have HO278 := n0_; have HB := n1_; clear n0_ n1_; (try clear hb); (try clear hb2); (try clear hk); (try clear hi); (try clear ho0)))
                        go_ret
                        exact ⟨by first | rfl | (simp [errW_none, errW_some] <;> rfl) | (simp [*, errW_none, errW_some] <;> rfl), by repeat (first | (with_reducible first | exact HB.out | apply below_alloc | apply pw_below_drewN | apply below_drew1) | exact HB.out)⟩
        · rw [if_neg c11] at H
          exact absurd H (by simp)

/-- THE ONE PURE STATEMENT of letterlocklaw2_WireRow: yours. -/
def letterlocklaw2_WireRow.Pure : Prop := ∀ (l0 : List ByteArray) (a1 : ByteArray), l0.length * 16 ≤ 140737488351232 → (∀ x ∈ l0, x.size ≤ 140737488351232) → a1.size ≤ 140737488351232 → ∃ k, letterlocklaw2_WireRow.f k l0 a1 = some true
theorem letterlocklaw2_WireRow.walk (P : letterlocklaw2_WireRow.Pure) (a0 : Option Addr) (len0 cap0 : Nat) (z0 : List ByteArray) (a1 : ByteArray) (w : World) (w0 : Kd.C Kd.string w a0 len0 z0) (v0 : len0 ≤ cap0) (y0 : len0 * 16 ≤ 140737488351232) (x0 : ∀ x ∈ z0, x.size ≤ 140737488351232) (w1 : a1.size ≤ 140737488351232) :
    Calls Try.prog 9 #[.slice a0 len0 cap0, .string a1] w fun e w' => e = .returned (.bool true) ∧ Below w.heap.size w w' := by
  obtain rfl : z0.length = len0 := w0.1
  obtain ⟨k, h⟩ := P z0 a1 y0 x0 w1
  refine (letterlocklaw2_WireRow.calls k _ _ z0 a1 true w w0 v0 h).mono ?_
  rintro e w' ⟨rfl, hd⟩
  exact ⟨rfl, hd⟩

end Go.Proofs.Ytmdglodneldekaa.P
