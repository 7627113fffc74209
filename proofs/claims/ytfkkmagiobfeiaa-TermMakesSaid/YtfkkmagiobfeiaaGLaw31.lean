/- Printed for this claim by wip/myprint.py out of the translation: Lean functions with the answers of the Go functions, and proofs that the Go code comes to them. Lean checks it. -/
import Derived.Test.YtfkkmagiobfeiaaG0
import Derived.Test.YtfkkmagiobfeiaaGLaw3
import Derived.Test.YtfkkmagiobfeiaaGRef3
import Derived.Test.YtfkkmagiobfeiaaGRef31
import Derived.Test.YtfkkmagiobfeiaaGTerm
import Derived.Test.YtfkkmagiobfeiaaXTerm
namespace Go.Proofs.Ytfkkmagiobfeiaa.P
open Go.RowKit Go.Proofs.YtfkkmagiobfeiaaW.PrintWords Go.Proofs.YtfkkmagiobfeiaaW.PrintLast Go.Proofs.YtfkkmagiobfeiaaW.PrintMore
attribute [local go_sem] max2_int min2_int max_two min_two max_three min_three max_four min_four   -- for this text's walks alone
set_option linter.unusedVariables false
set_option linter.unusedSimpArgs false

/-! ### letterlocklaw3_asked: function 24 -/
mutual
def letterlocklaw3_asked.j0 : Nat → ByteArray → ByteArray → Bool → Option (Bool)
  | 0, _, _, _ => none
  | k + 1, x0, x1, x84 => if x84 = true then (some false) else ((term_Number.f x0).bind fun bt375 => ((letterlockref3_Number.f k x0).bind fun bt377 => ((term_Words.f x0).bind fun bt379 => ((letterlockref3_Words.f k x0).bind fun bt381 => (if bt375.1 = bt377.1 then (if bt375.2 = bt377.2 then (if bt379.1.toList = bt381.1.toList then (letterlocklaw3_asked.j1 k x0 x1 (bt379.2 != bt381.2)) else (letterlocklaw3_asked.j1 k x0 x1 true)) else (letterlocklaw3_asked.j1 k x0 x1 true)) else (letterlocklaw3_asked.j1 k x0 x1 true))))))
def letterlocklaw3_asked.j1 : Nat → ByteArray → ByteArray → Bool → Option (Bool)
  | 0, _, _, _ => none
  | k + 1, x0, x1, x122 => if x122 = true then (some false) else ((term_Open.f x0 x1).bind fun bt383 => ((letterlockref3_Open.f k x0 x1).bind fun bt385 => ((term_Unbox.f x0 x1).bind fun bt387 => ((letterlockref3_Unbox.f k x0 x1).bind fun bt389 => (if bt383.1.toList = bt385.1.toList then (if bt383.2 = bt385.2 then (if bt387.1.toList = bt389.1.toList then (some (bt387.2 == bt389.2)) else (some false)) else (some false)) else (some false))))))
end
def letterlocklaw3_asked.f (k : Nat) (a0 : ByteArray) (a1 : ByteArray) (a2 : ByteArray) : Option (Bool) := (term_Read.f a0).bind fun bt356 => ((letterlockref3_Read.f k a0).bind fun bt359 => ((term_Parts.f a0).bind fun bt362 => ((letterlockref3_Parts.f k a0).bind fun bt366 => (if bt356.1.toList = bt359.1.toList then (if bt356.2.1.toList = bt359.2.1.toList then (if bt356.2.2 = bt359.2.2 then ((letterlocklaw3_same.f k bt362.1 bt366.1).bind fun t370 => (if t370 = true then (if bt362.2 = bt366.2 then ((term_Kind.f a0).bind fun t371 => ((letterlockref3_Kind.f k a0).bind fun t372 => (if t371 = t372 then ((term_Verify.f a0 a1 a2).bind fun t373 => ((letterlockref3_Verify.f k a0 a1 a2).bind fun t374 => (letterlocklaw3_asked.j0 k a0 a1 (t373 != t374)))) else (letterlocklaw3_asked.j0 k a0 a1 true)))) else (letterlocklaw3_asked.j0 k a0 a1 true)) else (letterlocklaw3_asked.j0 k a0 a1 true))) else (letterlocklaw3_asked.j0 k a0 a1 true)) else (letterlocklaw3_asked.j0 k a0 a1 true)) else (letterlocklaw3_asked.j0 k a0 a1 true)))))
theorem letterlocklaw3_asked.mono_l : ∀ k, (∀ y0 y1 y2, LeO (letterlocklaw3_asked.j0 k y0 y1 y2) (letterlocklaw3_asked.j0 (k + 1) y0 y1 y2)) ∧ (∀ y0 y1 y2, LeO (letterlocklaw3_asked.j1 k y0 y1 y2) (letterlocklaw3_asked.j1 (k + 1) y0 y1 y2))
  | 0 => ⟨fun _ _ _ r h => by simp [letterlocklaw3_asked.j0] at h, fun _ _ _ r h => by simp [letterlocklaw3_asked.j1] at h⟩
  | k + 1 => by
    obtain ⟨ih0, ih1⟩ := letterlocklaw3_asked.mono_l k
    refine ⟨?_, ?_⟩
    · intro y0 y1 y2
      unfold letterlocklaw3_asked.j0
      repeat' first
      | (with_reducible exact ih0 _ _ _)
      | (with_reducible exact ih1 _ _ _)
      | (with_reducible exact letterlocklaw3_same.mono _ _ _)
      | (with_reducible exact letterlockref3_Kind.mono _ _)
      | (with_reducible exact letterlockref3_Number.mono _ _)
      | (with_reducible exact letterlockref3_Open.mono _ _ _)
      | (with_reducible exact letterlockref3_Parts.mono _ _)
      | (with_reducible exact letterlockref3_Read.mono _ _)
      | (with_reducible exact letterlockref3_Unbox.mono _ _ _)
      | (with_reducible exact letterlockref3_Verify.mono _ _ _ _)
      | (with_reducible exact letterlockref3_Words.mono _ _)
      | (with_reducible exact LeO.refl _)
      | (with_reducible exact LeO.none _)
      | (with_reducible refine LeO.ite ?_ ?_)
      | (with_reducible refine LeO.bind ?_ (fun _ => ?_))
      | exact ih0 _ _ _
      | exact ih1 _ _ _
      | exact letterlocklaw3_same.mono _ _ _
      | exact letterlockref3_Kind.mono _ _
      | exact letterlockref3_Number.mono _ _
      | exact letterlockref3_Open.mono _ _ _
      | exact letterlockref3_Parts.mono _ _
      | exact letterlockref3_Read.mono _ _
      | exact letterlockref3_Unbox.mono _ _ _
      | exact letterlockref3_Verify.mono _ _ _ _
      | exact letterlockref3_Words.mono _ _
      | exact LeO.none _
      | refine LeO.ite ?_ ?_
      | refine LeO.bind ?_ (fun _ => ?_)
    · intro y0 y1 y2
      unfold letterlocklaw3_asked.j1
      repeat' first
      | (with_reducible exact ih0 _ _ _)
      | (with_reducible exact ih1 _ _ _)
      | (with_reducible exact letterlocklaw3_same.mono _ _ _)
      | (with_reducible exact letterlockref3_Kind.mono _ _)
      | (with_reducible exact letterlockref3_Number.mono _ _)
      | (with_reducible exact letterlockref3_Open.mono _ _ _)
      | (with_reducible exact letterlockref3_Parts.mono _ _)
      | (with_reducible exact letterlockref3_Read.mono _ _)
      | (with_reducible exact letterlockref3_Unbox.mono _ _ _)
      | (with_reducible exact letterlockref3_Verify.mono _ _ _ _)
      | (with_reducible exact letterlockref3_Words.mono _ _)
      | (with_reducible exact LeO.refl _)
      | (with_reducible exact LeO.none _)
      | (with_reducible refine LeO.ite ?_ ?_)
      | (with_reducible refine LeO.bind ?_ (fun _ => ?_))
      | exact ih0 _ _ _
      | exact ih1 _ _ _
      | exact letterlocklaw3_same.mono _ _ _
      | exact letterlockref3_Kind.mono _ _
      | exact letterlockref3_Number.mono _ _
      | exact letterlockref3_Open.mono _ _ _
      | exact letterlockref3_Parts.mono _ _
      | exact letterlockref3_Read.mono _ _
      | exact letterlockref3_Unbox.mono _ _ _
      | exact letterlockref3_Verify.mono _ _ _ _
      | exact letterlockref3_Words.mono _ _
      | exact LeO.none _
      | refine LeO.ite ?_ ?_
      | refine LeO.bind ?_ (fun _ => ?_)
theorem letterlocklaw3_asked.mono : ∀ a0 a1 a2 k, LeO (letterlocklaw3_asked.f k a0 a1 a2) (letterlocklaw3_asked.f (k + 1) a0 a1 a2) := by
  intro a0 a1 a2 k
  obtain ⟨ih0, ih1⟩ := letterlocklaw3_asked.mono_l k
  unfold letterlocklaw3_asked.f
  repeat' first
      | (with_reducible exact ih0 _ _ _)
      | (with_reducible exact ih1 _ _ _)
      | (with_reducible exact letterlocklaw3_same.mono _ _ _)
      | (with_reducible exact letterlockref3_Kind.mono _ _)
      | (with_reducible exact letterlockref3_Number.mono _ _)
      | (with_reducible exact letterlockref3_Open.mono _ _ _)
      | (with_reducible exact letterlockref3_Parts.mono _ _)
      | (with_reducible exact letterlockref3_Read.mono _ _)
      | (with_reducible exact letterlockref3_Unbox.mono _ _ _)
      | (with_reducible exact letterlockref3_Verify.mono _ _ _ _)
      | (with_reducible exact letterlockref3_Words.mono _ _)
      | (with_reducible exact LeO.refl _)
      | (with_reducible exact LeO.none _)
      | (with_reducible refine LeO.ite ?_ ?_)
      | (with_reducible refine LeO.bind ?_ (fun _ => ?_))
      | exact ih0 _ _ _
      | exact ih1 _ _ _
      | exact letterlocklaw3_same.mono _ _ _
      | exact letterlockref3_Kind.mono _ _
      | exact letterlockref3_Number.mono _ _
      | exact letterlockref3_Open.mono _ _ _
      | exact letterlockref3_Parts.mono _ _
      | exact letterlockref3_Read.mono _ _
      | exact letterlockref3_Unbox.mono _ _ _
      | exact letterlockref3_Verify.mono _ _ _ _
      | exact letterlockref3_Words.mono _ _
      | exact LeO.none _
      | refine LeO.ite ?_ ?_
      | refine LeO.bind ?_ (fun _ => ?_)
set_option maxHeartbeats 8000000 in
set_option maxRecDepth 100000 in
theorem letterlocklaw3_asked.calls (k : Nat) (a0 : ByteArray) (a1 : ByteArray) (a2 : ByteArray) (r : Bool) (w : World) (h : letterlocklaw3_asked.f k a0 a1 a2 = some r) :
    Calls Try.prog 24 #[.string a0, .string a1, .string a2] w fun e w' => e = .returned (.bool r) ∧ Below w.heap.size w w' := by
  have HB := Aside0.mk (Below.refl w.heap.size w)
  have H : ((term_Read.f a0).bind fun bt356 => ((letterlockref3_Read.f k a0).bind fun bt359 => ((term_Parts.f a0).bind fun bt362 => ((letterlockref3_Parts.f k a0).bind fun bt366 => (if bt356.1.toList = bt359.1.toList then (if bt356.2.1.toList = bt359.2.1.toList then (if bt356.2.2 = bt359.2.2 then ((letterlocklaw3_same.f k bt362.1 bt366.1).bind fun t370 => (if t370 = true then (if bt362.2 = bt366.2 then ((term_Kind.f a0).bind fun t371 => ((letterlockref3_Kind.f k a0).bind fun t372 => (if t371 = t372 then ((term_Verify.f a0 a1 a2).bind fun t373 => ((letterlockref3_Verify.f k a0 a1 a2).bind fun t374 => (letterlocklaw3_asked.j0 k a0 a1 (t373 != t374)))) else (letterlocklaw3_asked.j0 k a0 a1 true)))) else (letterlocklaw3_asked.j0 k a0 a1 true)) else (letterlocklaw3_asked.j0 k a0 a1 true))) else (letterlocklaw3_asked.j0 k a0 a1 true)) else (letterlocklaw3_asked.j0 k a0 a1 true)) else (letterlocklaw3_asked.j0 k a0 a1 true)))))) = some r := h
  clear h
  replace H := Option.bind_eq_some_iff.mp H
  obtain ⟨⟨t356, t357, t358⟩, A40, H⟩ := H
  replace H : ((letterlockref3_Read.f k a0).bind fun bt359 => ((term_Parts.f a0).bind fun bt362 => ((letterlockref3_Parts.f k a0).bind fun bt366 => (if t356.toList = bt359.1.toList then (if t357.toList = bt359.2.1.toList then (if t358 = bt359.2.2 then ((letterlocklaw3_same.f k bt362.1 bt366.1).bind fun t370 => (if t370 = true then (if bt362.2 = bt366.2 then ((term_Kind.f a0).bind fun t371 => ((letterlockref3_Kind.f k a0).bind fun t372 => (if t371 = t372 then ((term_Verify.f a0 a1 a2).bind fun t373 => ((letterlockref3_Verify.f k a0 a1 a2).bind fun t374 => (letterlocklaw3_asked.j0 k a0 a1 (t373 != t374)))) else (letterlocklaw3_asked.j0 k a0 a1 true)))) else (letterlocklaw3_asked.j0 k a0 a1 true)) else (letterlocklaw3_asked.j0 k a0 a1 true))) else (letterlocklaw3_asked.j0 k a0 a1 true)) else (letterlocklaw3_asked.j0 k a0 a1 true)) else (letterlocklaw3_asked.j0 k a0 a1 true))))) = some r := H
  have A4 := Aside0.mk A40
  clear A40
  replace H := Option.bind_eq_some_iff.mp H
  obtain ⟨⟨t359, t360, t361⟩, A50, H⟩ := H
  replace H : ((term_Parts.f a0).bind fun bt362 => ((letterlockref3_Parts.f k a0).bind fun bt366 => (if t356.toList = t359.toList then (if t357.toList = t360.toList then (if t358 = t361 then ((letterlocklaw3_same.f k bt362.1 bt366.1).bind fun t370 => (if t370 = true then (if bt362.2 = bt366.2 then ((term_Kind.f a0).bind fun t371 => ((letterlockref3_Kind.f k a0).bind fun t372 => (if t371 = t372 then ((term_Verify.f a0 a1 a2).bind fun t373 => ((letterlockref3_Verify.f k a0 a1 a2).bind fun t374 => (letterlocklaw3_asked.j0 k a0 a1 (t373 != t374)))) else (letterlocklaw3_asked.j0 k a0 a1 true)))) else (letterlocklaw3_asked.j0 k a0 a1 true)) else (letterlocklaw3_asked.j0 k a0 a1 true))) else (letterlocklaw3_asked.j0 k a0 a1 true)) else (letterlocklaw3_asked.j0 k a0 a1 true)) else (letterlocklaw3_asked.j0 k a0 a1 true)))) = some r := H
  have A5 := Aside0.mk A50
  clear A50
  replace H := Option.bind_eq_some_iff.mp H
  obtain ⟨⟨t362, t363⟩, A60, H⟩ := H
  replace H : ((letterlockref3_Parts.f k a0).bind fun bt366 => (if t356.toList = t359.toList then (if t357.toList = t360.toList then (if t358 = t361 then ((letterlocklaw3_same.f k t362 bt366.1).bind fun t370 => (if t370 = true then (if t363 = bt366.2 then ((term_Kind.f a0).bind fun t371 => ((letterlockref3_Kind.f k a0).bind fun t372 => (if t371 = t372 then ((term_Verify.f a0 a1 a2).bind fun t373 => ((letterlockref3_Verify.f k a0 a1 a2).bind fun t374 => (letterlocklaw3_asked.j0 k a0 a1 (t373 != t374)))) else (letterlocklaw3_asked.j0 k a0 a1 true)))) else (letterlocklaw3_asked.j0 k a0 a1 true)) else (letterlocklaw3_asked.j0 k a0 a1 true))) else (letterlocklaw3_asked.j0 k a0 a1 true)) else (letterlocklaw3_asked.j0 k a0 a1 true)) else (letterlocklaw3_asked.j0 k a0 a1 true))) = some r := H
  have A6 := Aside0.mk A60
  clear A60
  replace H := Option.bind_eq_some_iff.mp H
  obtain ⟨⟨t366, t367⟩, A70, H⟩ := H
  replace H : (if t356.toList = t359.toList then (if t357.toList = t360.toList then (if t358 = t361 then ((letterlocklaw3_same.f k t362 t366).bind fun t370 => (if t370 = true then (if t363 = t367 then ((term_Kind.f a0).bind fun t371 => ((letterlockref3_Kind.f k a0).bind fun t372 => (if t371 = t372 then ((term_Verify.f a0 a1 a2).bind fun t373 => ((letterlockref3_Verify.f k a0 a1 a2).bind fun t374 => (letterlocklaw3_asked.j0 k a0 a1 (t373 != t374)))) else (letterlocklaw3_asked.j0 k a0 a1 true)))) else (letterlocklaw3_asked.j0 k a0 a1 true)) else (letterlocklaw3_asked.j0 k a0 a1 true))) else (letterlocklaw3_asked.j0 k a0 a1 true)) else (letterlocklaw3_asked.j0 k a0 a1 true)) else (letterlocklaw3_asked.j0 k a0 a1 true)) = some r := H
  have A7 := Aside0.mk A70
  clear A70
  have HC8 := Aside0.mk H
  clear H
  go_enter Try.func24, Try.ntmps24
  go_upto_region 5 with (first | ((with_reducible refine gate_callee (f := 32) rfl ?_); refine goesL_ (some 23) rfl rfl Try.func32 (by kernel_rfl) rfl #[.string a0] rfl (by (try simp only [List.map_toArray, List.map_cons, List.map_nil]); first | done | rfl | (simp only [List.length_drop, List.length_take]; rfl)) ?_; (with_reducible refine (term_Read.calls a0 t356 t357 t358 _ A4.out).mono ?_); rintro e w9 ⟨rfl, hb⟩; refine ⟨_, rfl, ?_⟩; have n0_ := Aside0.mk (below_step (by repeat (first | (with_reducible first | exact HB.out | apply below_alloc | apply pw_below_drewN | apply below_drew1) | exact HB.out)) hb); clear HB; have HB := n0_; clear n0_; (try clear hb); (try clear hb2); (try clear hk); (try clear hi)) | ((with_reducible refine gate_callee (f := 40) rfl ?_); refine goesL_ (some 29) rfl rfl Try.func40 (by kernel_rfl) rfl #[.string a0] rfl (by (try simp only [List.map_toArray, List.map_cons, List.map_nil]); first | done | rfl | (simp only [List.length_drop, List.length_take]; rfl)) ?_; (with_reducible refine (letterlockref3_Read.calls k a0 t359 t360 t361 _ A5.out).mono ?_); rintro e w10 ⟨rfl, hb⟩; refine ⟨_, rfl, ?_⟩; have n0_ := Aside0.mk (below_step (by repeat (first | (with_reducible first | exact HB.out | apply below_alloc | apply pw_below_drewN | apply below_drew1) | exact HB.out)) hb); clear HB; have HB := n0_; clear n0_; (try clear hb); (try clear hb2); (try clear hk); (try clear hi)) | ((with_reducible refine gate_callee (f := 23) rfl ?_); refine goesL_ (some 35) rfl rfl Try.func23 (by kernel_rfl) rfl #[.string a0] rfl (by (try simp only [List.map_toArray, List.map_cons, List.map_nil]); first | done | rfl | (simp only [List.length_drop, List.length_take]; rfl)) ?_; (with_reducible refine (term_Parts.calls a0 t362 t363 _ A6.out).mono ?_); rintro e w11 ⟨v364, rfl, ho0, hb⟩; refine ⟨_, rfl, ?_⟩; have n0_ := Aside0.mk (Kd.R_lower ho0 (below_size (by repeat (first | (with_reducible first | exact HB.out | apply below_alloc | apply pw_below_drewN | apply below_drew1) | exact HB.out)))); have n1_ := Aside0.mk (below_step (by repeat (first | (with_reducible first | exact HB.out | apply below_alloc | apply pw_below_drewN | apply below_drew1) | exact HB.out)) hb); clear HB; have HO365 := n0_; have HB := n1_; clear n0_ n1_; (try clear hb); (try clear hb2); (try clear hk); (try clear hi); (try clear ho0)) | ((with_reducible refine gate_callee (f := 41) rfl ?_); refine goesL_ (some 40) rfl rfl Try.func41 (by kernel_rfl) rfl #[.string a0] rfl (by (try simp only [List.map_toArray, List.map_cons, List.map_nil]); first | done | rfl | (simp only [List.length_drop, List.length_take]; rfl)) ?_; (with_reducible refine (letterlockref3_Parts.calls k a0 t366 t367 _ A7.out).mono ?_); rintro e w12 ⟨v368, rfl, ho0, hb⟩; refine ⟨_, rfl, ?_⟩; have n0_ := Aside0.mk (Kd.R_elder' (by (with_reducible repeat (first | apply Kd.R_alloc | apply Kd.R_drewN | apply Kd.R_drew)); exact HO365.out) (Kd.R_base ho0) hb); have n1_ := Aside0.mk (Kd.R_lower (Kd.R_new' ho0 (Kd.R_lt (by (with_reducible repeat (first | apply Kd.R_alloc | apply Kd.R_drewN | apply Kd.R_drew)); exact HO365.out))) (below_size (by repeat (first | (with_reducible first | exact HB.out | apply below_alloc | apply pw_below_drewN | apply below_drew1) | exact HB.out)))); have n2_ := Aside0.mk (below_step (by repeat (first | (with_reducible first | exact HB.out | apply below_alloc | apply pw_below_drewN | apply below_drew1) | exact HB.out)) hb); clear HO365; clear HB; have HO365 := n0_; have HO369 := n1_; have HB := n2_; clear n0_ n1_ n2_; (try clear hb); (try clear hb2); (try clear hk); (try clear hi); (try clear ho0)))
  (try simp only [Act.put, List.setIfInBounds_toArray, List.set_cons_zero, List.set_cons_succ])
  go_cut [84] (fun v84 wc => ∃ (kq : Nat) (x84_7 : Bool), v84 = .bool x84_7 ∧ Aside0 (letterlocklaw3_asked.j0 kq a0 a1 x84_7 = some r) ∧ Aside0 (kq ≤ k) ∧ Aside0 (Below w.heap.size w wc))
  case first =>
    have H := HC8.out
    clear HC8
    by_cases c13 : t356.toList = t359.toList
    · rw [if_pos c13] at H
      have c13b0 : (t356.toList == t359.toList) = true := beq_iff_eq.mpr c13
      have c13b1 : (t356.toList != t359.toList) = false := bne_eq_false_iff_eq.mpr c13
      clear c13
      (first | rw [c13b0] | (simp only [i64_w, i32_w]; rw [c13b0]) | skip)
      by_cases c14 : t357.toList = t360.toList
      · rw [if_pos c14] at H
        have c14b0 : (t357.toList == t360.toList) = true := beq_iff_eq.mpr c14
        have c14b1 : (t357.toList != t360.toList) = false := bne_eq_false_iff_eq.mpr c14
        clear c14
        by_cases c15 : t358 = t361
        · rw [if_pos c15] at H
          have c15b0 : (t358 == t361) = true := beq_iff_eq.mpr c15
          have c15b1 : (t358 != t361) = false := bne_eq_false_iff_eq.mpr c15
          clear c15
          replace H := Option.bind_eq_some_iff.mp H
          obtain ⟨t370, A160, H⟩ := H
          replace H : (if t370 = true then (if t363 = t367 then ((term_Kind.f a0).bind fun t371 => ((letterlockref3_Kind.f k a0).bind fun t372 => (if t371 = t372 then ((term_Verify.f a0 a1 a2).bind fun t373 => ((letterlockref3_Verify.f k a0 a1 a2).bind fun t374 => (letterlocklaw3_asked.j0 k a0 a1 (t373 != t374)))) else (letterlocklaw3_asked.j0 k a0 a1 true)))) else (letterlocklaw3_asked.j0 k a0 a1 true)) else (letterlocklaw3_asked.j0 k a0 a1 true)) = some r := H
          have A16 := Aside0.mk A160
          clear A160
          by_cases c17 : t370 = true
          · subst c17
            have H1 : (if t363 = t367 then ((term_Kind.f a0).bind fun t371 => ((letterlockref3_Kind.f k a0).bind fun t372 => (if t371 = t372 then ((term_Verify.f a0 a1 a2).bind fun t373 => ((letterlockref3_Verify.f k a0 a1 a2).bind fun t374 => (letterlocklaw3_asked.j0 k a0 a1 (t373 != t374)))) else (letterlocklaw3_asked.j0 k a0 a1 true)))) else (letterlocklaw3_asked.j0 k a0 a1 true)) = some r := by rw [if_pos rfl] at H; exact H
            clear H
            have H := H1
            clear H1
            by_cases c18 : t363 = t367
            · rw [if_pos c18] at H
              have c18b0 : (t363 == t367) = true := beq_iff_eq.mpr c18
              have c18b1 : (t363 != t367) = false := bne_eq_false_iff_eq.mpr c18
              clear c18
              replace H := Option.bind_eq_some_iff.mp H
              obtain ⟨t371, A190, H⟩ := H
              replace H : ((letterlockref3_Kind.f k a0).bind fun t372 => (if t371 = t372 then ((term_Verify.f a0 a1 a2).bind fun t373 => ((letterlockref3_Verify.f k a0 a1 a2).bind fun t374 => (letterlocklaw3_asked.j0 k a0 a1 (t373 != t374)))) else (letterlocklaw3_asked.j0 k a0 a1 true))) = some r := H
              have A19 := Aside0.mk A190
              clear A190
              replace H := Option.bind_eq_some_iff.mp H
              obtain ⟨t372, A200, H⟩ := H
              replace H : (if t371 = t372 then ((term_Verify.f a0 a1 a2).bind fun t373 => ((letterlockref3_Verify.f k a0 a1 a2).bind fun t374 => (letterlocklaw3_asked.j0 k a0 a1 (t373 != t374)))) else (letterlocklaw3_asked.j0 k a0 a1 true)) = some r := H
              have A20 := Aside0.mk A200
              clear A200
              by_cases c21 : t371 = t372
              · rw [if_pos c21] at H
                have c21b0 : (t371 == t372) = true := beq_iff_eq.mpr c21
                have c21b1 : (t371 != t372) = false := bne_eq_false_iff_eq.mpr c21
                clear c21
                replace H := Option.bind_eq_some_iff.mp H
                obtain ⟨t373, A220, H⟩ := H
                replace H : ((letterlockref3_Verify.f k a0 a1 a2).bind fun t374 => (letterlocklaw3_asked.j0 k a0 a1 (t373 != t374))) = some r := H
                have A22 := Aside0.mk A220
                clear A220
                replace H := Option.bind_eq_some_iff.mp H
                obtain ⟨t374, A230, H⟩ := H
                replace H : (letterlocklaw3_asked.j0 k a0 a1 (t373 != t374)) = some r := H
                have A23 := Aside0.mk A230
                clear A230
                have H' := Aside0.mk H
                clear H
                obtain ⟨Ao24, co24, eo24⟩ := Kd.R_slice HO365.out
                subst eo24
                obtain ⟨Ao25, co25, eo25⟩ := Kd.R_slice HO369.out
                subst eo25
                go_wp2_with (first | (go_at_call 42; (with_reducible refine (letterlocklaw3_same.calls k _ _ t362 _ _ t366 true _ ?side1 ?side2 ?side3 ?side4 A16.out).mono ?_); (case side1 => repeat (first | exact (Kd.R_reads' HO365.out).2.2 | (with_reducible refine Kd.C_alloc ?_ _) | (with_reducible refine Kd.C_drewN ?_ _) | (with_reducible refine Kd.C_drew ?_))); (case side2 => exact (Kd.R_reads' HO365.out).2.1); (case side3 => repeat (first | exact (Kd.R_reads' HO369.out).2.2 | (with_reducible refine Kd.C_alloc ?_ _) | (with_reducible refine Kd.C_drewN ?_ _) | (with_reducible refine Kd.C_drew ?_))); (case side4 => exact (Kd.R_reads' HO369.out).2.1); rintro e w' ⟨rfl, ⟨nd, rfl⟩⟩) | (go_at_call 15; (with_reducible refine (term_Kind.calls a0 t371 _ A19.out).mono ?_); rintro e w26 ⟨rfl, hb⟩; have n0_ := Aside0.mk (Kd.R_below (by (with_reducible repeat (first | apply Kd.R_alloc | apply Kd.R_drewN | apply Kd.R_drew)); exact HO365.out) hb); have n1_ := Aside0.mk (Kd.R_below (by (with_reducible repeat (first | apply Kd.R_alloc | apply Kd.R_drewN | apply Kd.R_drew)); exact HO369.out) hb); have n2_ := Aside0.mk (below_step (by repeat (first | (with_reducible first | exact HB.out | apply below_alloc | apply pw_below_drewN | apply below_drew1) | exact HB.out)) hb); clear HO365; clear HO369; clear HB; have HO365 := n0_; have HO369 := n1_; have HB := n2_; clear n0_ n1_ n2_; (try clear hb); (try clear hb2); (try clear hk); (try clear hi)) | (go_at_call 43; (with_reducible refine (letterlockref3_Kind.calls k a0 t372 _ A20.out).mono ?_); rintro e w27 ⟨rfl, hb⟩; have n0_ := Aside0.mk (Kd.R_below (by (with_reducible repeat (first | apply Kd.R_alloc | apply Kd.R_drewN | apply Kd.R_drew)); exact HO365.out) hb); have n1_ := Aside0.mk (Kd.R_below (by (with_reducible repeat (first | apply Kd.R_alloc | apply Kd.R_drewN | apply Kd.R_drew)); exact HO369.out) hb); have n2_ := Aside0.mk (below_step (by repeat (first | (with_reducible first | exact HB.out | apply below_alloc | apply pw_below_drewN | apply below_drew1) | exact HB.out)) hb); clear HO365; clear HO369; clear HB; have HO365 := n0_; have HO369 := n1_; have HB := n2_; clear n0_ n1_ n2_; (try clear hb); (try clear hb2); (try clear hk); (try clear hi)) | (go_at_call 20; (with_reducible refine (term_Verify.calls a0 a1 a2 t373 _ A22.out).mono ?_); rintro e w28 ⟨rfl, hb⟩; have n0_ := Aside0.mk (Kd.R_below (by (with_reducible repeat (first | apply Kd.R_alloc | apply Kd.R_drewN | apply Kd.R_drew)); exact HO365.out) hb); have n1_ := Aside0.mk (Kd.R_below (by (with_reducible repeat (first | apply Kd.R_alloc | apply Kd.R_drewN | apply Kd.R_drew)); exact HO369.out) hb); have n2_ := Aside0.mk (below_step (by repeat (first | (with_reducible first | exact HB.out | apply below_alloc | apply pw_below_drewN | apply below_drew1) | exact HB.out)) hb); clear HO365; clear HO369; clear HB; have HO365 := n0_; have HO369 := n1_; have HB := n2_; clear n0_ n1_ n2_; (try clear hb); (try clear hb2); (try clear hk); (try clear hi)) | (go_at_call 44; (with_reducible refine (letterlockref3_Verify.calls k a0 a1 a2 t374 _ A23.out).mono ?_); rintro e w29 ⟨rfl, hb⟩; have n0_ := Aside0.mk (Kd.R_below (by (with_reducible repeat (first | apply Kd.R_alloc | apply Kd.R_drewN | apply Kd.R_drew)); exact HO365.out) hb); have n1_ := Aside0.mk (Kd.R_below (by (with_reducible repeat (first | apply Kd.R_alloc | apply Kd.R_drewN | apply Kd.R_drew)); exact HO369.out) hb); have n2_ := Aside0.mk (below_step (by repeat (first | (with_reducible first | exact HB.out | apply below_alloc | apply pw_below_drewN | apply below_drew1) | exact HB.out)) hb); clear HO365; clear HO369; clear HB; have HO365 := n0_; have HO369 := n1_; have HB := n2_; clear n0_ n1_ n2_; (try clear hb); (try clear hb2); (try clear hk); (try clear hi)))
                go_meet
                case rel => exact ⟨_, ((t373 != t374)), (by first | rfl | (simp; done) | (simp [*]; done) | (simp; exact isEmpty_ne _)), H', ⟨by first | omega | exact Nat.le_refl _⟩, ⟨by repeat (first | (with_reducible first | exact HB.out | apply below_alloc | apply pw_below_drewN | apply below_drew1) | exact HB.out)⟩⟩
              · rw [if_neg c21] at H
                have c21b0 : (t371 == t372) = false := beq_eq_false_iff_ne.mpr c21
                have c21b1 : (t371 != t372) = true := bne_iff_ne.mpr c21
                have H' := Aside0.mk H
                clear H
                obtain ⟨Ao30, co30, eo30⟩ := Kd.R_slice HO365.out
                subst eo30
                obtain ⟨Ao31, co31, eo31⟩ := Kd.R_slice HO369.out
                subst eo31
                go_wp2_with (first | (go_at_call 42; (with_reducible refine (letterlocklaw3_same.calls k _ _ t362 _ _ t366 true _ ?side1 ?side2 ?side3 ?side4 A16.out).mono ?_); (case side1 => repeat (first | exact (Kd.R_reads' HO365.out).2.2 | (with_reducible refine Kd.C_alloc ?_ _) | (with_reducible refine Kd.C_drewN ?_ _) | (with_reducible refine Kd.C_drew ?_))); (case side2 => exact (Kd.R_reads' HO365.out).2.1); (case side3 => repeat (first | exact (Kd.R_reads' HO369.out).2.2 | (with_reducible refine Kd.C_alloc ?_ _) | (with_reducible refine Kd.C_drewN ?_ _) | (with_reducible refine Kd.C_drew ?_))); (case side4 => exact (Kd.R_reads' HO369.out).2.1); rintro e w' ⟨rfl, ⟨nd, rfl⟩⟩) | (go_at_call 15; (with_reducible refine (term_Kind.calls a0 t371 _ A19.out).mono ?_); rintro e w32 ⟨rfl, hb⟩; have n0_ := Aside0.mk (Kd.R_below (by (with_reducible repeat (first | apply Kd.R_alloc | apply Kd.R_drewN | apply Kd.R_drew)); exact HO365.out) hb); have n1_ := Aside0.mk (Kd.R_below (by (with_reducible repeat (first | apply Kd.R_alloc | apply Kd.R_drewN | apply Kd.R_drew)); exact HO369.out) hb); have n2_ := Aside0.mk (below_step (by repeat (first | (with_reducible first | exact HB.out | apply below_alloc | apply pw_below_drewN | apply below_drew1) | exact HB.out)) hb); clear HO365; clear HO369; clear HB; have HO365 := n0_; have HO369 := n1_; have HB := n2_; clear n0_ n1_ n2_; (try clear hb); (try clear hb2); (try clear hk); (try clear hi)) | (go_at_call 43; (with_reducible refine (letterlockref3_Kind.calls k a0 t372 _ A20.out).mono ?_); rintro e w33 ⟨rfl, hb⟩; have n0_ := Aside0.mk (Kd.R_below (by (with_reducible repeat (first | apply Kd.R_alloc | apply Kd.R_drewN | apply Kd.R_drew)); exact HO365.out) hb); have n1_ := Aside0.mk (Kd.R_below (by (with_reducible repeat (first | apply Kd.R_alloc | apply Kd.R_drewN | apply Kd.R_drew)); exact HO369.out) hb); have n2_ := Aside0.mk (below_step (by repeat (first | (with_reducible first | exact HB.out | apply below_alloc | apply pw_below_drewN | apply below_drew1) | exact HB.out)) hb); clear HO365; clear HO369; clear HB; have HO365 := n0_; have HO369 := n1_; have HB := n2_; clear n0_ n1_ n2_; (try clear hb); (try clear hb2); (try clear hk); (try clear hi)))
                go_meet
                case rel => exact ⟨_, (true), (by first | rfl | (simp; done) | (simp [*]; done) | (simp; exact isEmpty_ne _)), H', ⟨by first | omega | exact Nat.le_refl _⟩, ⟨by repeat (first | (with_reducible first | exact HB.out | apply below_alloc | apply pw_below_drewN | apply below_drew1) | exact HB.out)⟩⟩
            · rw [if_neg c18] at H
              have c18b0 : (t363 == t367) = false := beq_eq_false_iff_ne.mpr c18
              have c18b1 : (t363 != t367) = true := bne_iff_ne.mpr c18
              have H' := Aside0.mk H
              clear H
              obtain ⟨Ao34, co34, eo34⟩ := Kd.R_slice HO365.out
              subst eo34
              obtain ⟨Ao35, co35, eo35⟩ := Kd.R_slice HO369.out
              subst eo35
              go_wp2_with (first | (go_at_call 42; (with_reducible refine (letterlocklaw3_same.calls k _ _ t362 _ _ t366 true _ ?side1 ?side2 ?side3 ?side4 A16.out).mono ?_); (case side1 => repeat (first | exact (Kd.R_reads' HO365.out).2.2 | (with_reducible refine Kd.C_alloc ?_ _) | (with_reducible refine Kd.C_drewN ?_ _) | (with_reducible refine Kd.C_drew ?_))); (case side2 => exact (Kd.R_reads' HO365.out).2.1); (case side3 => repeat (first | exact (Kd.R_reads' HO369.out).2.2 | (with_reducible refine Kd.C_alloc ?_ _) | (with_reducible refine Kd.C_drewN ?_ _) | (with_reducible refine Kd.C_drew ?_))); (case side4 => exact (Kd.R_reads' HO369.out).2.1); rintro e w' ⟨rfl, ⟨nd, rfl⟩⟩))
              go_meet
              case rel => exact ⟨_, (true), (by first | rfl | (simp; done) | (simp [*]; done) | (simp; exact isEmpty_ne _)), H', ⟨by first | omega | exact Nat.le_refl _⟩, ⟨by repeat (first | (with_reducible first | exact HB.out | apply below_alloc | apply pw_below_drewN | apply below_drew1) | exact HB.out)⟩⟩
          · replace c17 := Bool.eq_false_iff.mpr c17
            subst c17
            have H1 : (letterlocklaw3_asked.j0 k a0 a1 true) = some r := by rw [if_neg (show ¬ (false = true) by decide)] at H; exact H
            clear H
            have H := H1
            clear H1
            have H' := Aside0.mk H
            clear H
            obtain ⟨Ao36, co36, eo36⟩ := Kd.R_slice HO365.out
            subst eo36
            obtain ⟨Ao37, co37, eo37⟩ := Kd.R_slice HO369.out
            subst eo37
            go_wp2_with (first | (go_at_call 42; (with_reducible refine (letterlocklaw3_same.calls k _ _ t362 _ _ t366 false _ ?side1 ?side2 ?side3 ?side4 A16.out).mono ?_); (case side1 => repeat (first | exact (Kd.R_reads' HO365.out).2.2 | (with_reducible refine Kd.C_alloc ?_ _) | (with_reducible refine Kd.C_drewN ?_ _) | (with_reducible refine Kd.C_drew ?_))); (case side2 => exact (Kd.R_reads' HO365.out).2.1); (case side3 => repeat (first | exact (Kd.R_reads' HO369.out).2.2 | (with_reducible refine Kd.C_alloc ?_ _) | (with_reducible refine Kd.C_drewN ?_ _) | (with_reducible refine Kd.C_drew ?_))); (case side4 => exact (Kd.R_reads' HO369.out).2.1); rintro e w' ⟨rfl, ⟨nd, rfl⟩⟩))
            go_meet
            case rel => exact ⟨_, (true), (by first | rfl | (simp; done) | (simp [*]; done) | (simp; exact isEmpty_ne _)), H', ⟨by first | omega | exact Nat.le_refl _⟩, ⟨by repeat (first | (with_reducible first | exact HB.out | apply below_alloc | apply pw_below_drewN | apply below_drew1) | exact HB.out)⟩⟩
        · rw [if_neg c15] at H
          have c15b0 : (t358 == t361) = false := beq_eq_false_iff_ne.mpr c15
          have c15b1 : (t358 != t361) = true := bne_iff_ne.mpr c15
          have H' := Aside0.mk H
          clear H
          go_wp2
          go_meet
          case rel => exact ⟨_, (true), (by first | rfl | (simp; done) | (simp [*]; done) | (simp; exact isEmpty_ne _)), H', ⟨by first | omega | exact Nat.le_refl _⟩, ⟨by repeat (first | (with_reducible first | exact HB.out | apply below_alloc | apply pw_below_drewN | apply below_drew1) | exact HB.out)⟩⟩
      · rw [if_neg c14] at H
        have c14b0 : (t357.toList == t360.toList) = false := beq_eq_false_iff_ne.mpr c14
        have c14b1 : (t357.toList != t360.toList) = true := bne_iff_ne.mpr c14
        have H' := Aside0.mk H
        clear H
        go_wp2
        go_meet
        case rel => exact ⟨_, (true), (by first | rfl | (simp; done) | (simp [*]; done) | (simp; exact isEmpty_ne _)), H', ⟨by first | omega | exact Nat.le_refl _⟩, ⟨by repeat (first | (with_reducible first | exact HB.out | apply below_alloc | apply pw_below_drewN | apply below_drew1) | exact HB.out)⟩⟩
    · rw [if_neg c13] at H
      have c13b0 : (t356.toList == t359.toList) = false := beq_eq_false_iff_ne.mpr c13
      have c13b1 : (t356.toList != t359.toList) = true := bne_iff_ne.mpr c13
      (first | rw [c13b0] | (simp only [i64_w, i32_w]; rw [c13b0]) | skip)
      have H' := Aside0.mk H
      clear H
      go_wp2
      go_meet
      case rel => exact ⟨_, (true), (by first | rfl | (simp; done) | (simp [*]; done) | (simp; exact isEmpty_ne _)), H', ⟨by first | omega | exact Nat.le_refl _⟩, ⟨by repeat (first | (with_reducible first | exact HB.out | apply below_alloc | apply pw_below_drewN | apply below_drew1) | exact HB.out)⟩⟩
  case rest =>
    clear HC8
    try clear c1
    try clear c2
    try clear p2
    try clear c3
    try clear c4
    try clear c13
    try clear c13b0
    try clear c13b1
    try clear c14
    try clear c14b0
    try clear c14b1
    try clear c15
    try clear c15b0
    try clear c15b1
    try clear c17
    try clear c18
    try clear c18b0
    try clear c18b1
    try clear c21
    try clear c21b0
    try clear c21b1
    try clear c23
    try clear c24
    try clear c32
    obtain ⟨kq, x84_7, rfl, HA, HJ7, HB⟩ := hcut
    cases kq with
    | zero => exact absurd HA.out (by simp [letterlocklaw3_asked.j0])
    | succ kj7 =>
      have H := HA.out
      clear HA
      simp only [letterlocklaw3_asked.j0] at H
      by_cases c38 : x84_7 = true
      · subst c38
        have H1 : (some false) = some r := by rw [if_pos rfl] at H; exact H
        clear H
        have H := H1
        clear H1
        obtain rfl := Option.some.inj H
        go_wp2
        go_ret
        exact ⟨by first | rfl | (simp [errW_none, errW_some] <;> rfl) | (simp [*, errW_none, errW_some] <;> rfl), by repeat (first | (with_reducible first | exact HB.out | apply below_alloc | apply pw_below_drewN | apply below_drew1) | exact HB.out)⟩
      · replace c38 := Bool.eq_false_iff.mpr c38
        subst c38
        have H1 : ((term_Number.f a0).bind fun bt375 => ((letterlockref3_Number.f kj7 a0).bind fun bt377 => ((term_Words.f a0).bind fun bt379 => ((letterlockref3_Words.f kj7 a0).bind fun bt381 => (if bt375.1 = bt377.1 then (if bt375.2 = bt377.2 then (if bt379.1.toList = bt381.1.toList then (letterlocklaw3_asked.j1 kj7 a0 a1 (bt379.2 != bt381.2)) else (letterlocklaw3_asked.j1 kj7 a0 a1 true)) else (letterlocklaw3_asked.j1 kj7 a0 a1 true)) else (letterlocklaw3_asked.j1 kj7 a0 a1 true)))))) = some r := by rw [if_neg (show ¬ (false = true) by decide)] at H; exact H
        clear H
        have H := H1
        clear H1
        replace H := Option.bind_eq_some_iff.mp H
        obtain ⟨⟨t375, t376⟩, A390, H⟩ := H
        replace H : ((letterlockref3_Number.f kj7 a0).bind fun bt377 => ((term_Words.f a0).bind fun bt379 => ((letterlockref3_Words.f kj7 a0).bind fun bt381 => (if t375 = bt377.1 then (if t376 = bt377.2 then (if bt379.1.toList = bt381.1.toList then (letterlocklaw3_asked.j1 kj7 a0 a1 (bt379.2 != bt381.2)) else (letterlocklaw3_asked.j1 kj7 a0 a1 true)) else (letterlocklaw3_asked.j1 kj7 a0 a1 true)) else (letterlocklaw3_asked.j1 kj7 a0 a1 true))))) = some r := H
        have A39 := Aside0.mk A390
        clear A390
        replace H := Option.bind_eq_some_iff.mp H
        obtain ⟨⟨t377, t378⟩, A400, H⟩ := H
        replace H : ((term_Words.f a0).bind fun bt379 => ((letterlockref3_Words.f kj7 a0).bind fun bt381 => (if t375 = t377 then (if t376 = t378 then (if bt379.1.toList = bt381.1.toList then (letterlocklaw3_asked.j1 kj7 a0 a1 (bt379.2 != bt381.2)) else (letterlocklaw3_asked.j1 kj7 a0 a1 true)) else (letterlocklaw3_asked.j1 kj7 a0 a1 true)) else (letterlocklaw3_asked.j1 kj7 a0 a1 true)))) = some r := H
        have A40 := Aside0.mk A400
        clear A400
        replace H := Option.bind_eq_some_iff.mp H
        obtain ⟨⟨t379, t380⟩, A410, H⟩ := H
        replace H : ((letterlockref3_Words.f kj7 a0).bind fun bt381 => (if t375 = t377 then (if t376 = t378 then (if t379.toList = bt381.1.toList then (letterlocklaw3_asked.j1 kj7 a0 a1 (t380 != bt381.2)) else (letterlocklaw3_asked.j1 kj7 a0 a1 true)) else (letterlocklaw3_asked.j1 kj7 a0 a1 true)) else (letterlocklaw3_asked.j1 kj7 a0 a1 true))) = some r := H
        have A41 := Aside0.mk A410
        clear A410
        replace H := Option.bind_eq_some_iff.mp H
        obtain ⟨⟨t381, t382⟩, A420, H⟩ := H
        replace H : (if t375 = t377 then (if t376 = t378 then (if t379.toList = t381.toList then (letterlocklaw3_asked.j1 kj7 a0 a1 (t380 != t382)) else (letterlocklaw3_asked.j1 kj7 a0 a1 true)) else (letterlocklaw3_asked.j1 kj7 a0 a1 true)) else (letterlocklaw3_asked.j1 kj7 a0 a1 true)) = some r := H
        have A42 := Aside0.mk A420
        clear A420
        have HC43 := Aside0.mk H
        clear H
        go_upto_region 11 with (first | ((with_reducible refine gate_callee (f := 21) rfl ?_); refine goesL_ (some 87) rfl rfl Try.func21 (by kernel_rfl) rfl #[.string a0] rfl (by (try simp only [List.map_toArray, List.map_cons, List.map_nil]); first | done | rfl | (simp only [List.length_drop, List.length_take]; rfl)) ?_; (with_reducible refine (term_Number.calls a0 t375 t376 _ A39.out).mono ?_); rintro e w44 ⟨rfl, hb⟩; refine ⟨_, rfl, ?_⟩; have n0_ := Aside0.mk (below_step (by repeat (first | (with_reducible first | exact HB.out | apply below_alloc | apply pw_below_drewN | apply below_drew1) | exact HB.out)) hb); clear HB; have HB := n0_; clear n0_; (try clear hb); (try clear hb2); (try clear hk); (try clear hi)) | ((with_reducible refine gate_callee (f := 45) rfl ?_); refine goesL_ (some 92) rfl rfl Try.func45 (by kernel_rfl) rfl #[.string a0] rfl (by (try simp only [List.map_toArray, List.map_cons, List.map_nil]); first | done | rfl | (simp only [List.length_drop, List.length_take]; rfl)) ?_; (with_reducible refine (letterlockref3_Number.calls kj7 a0 t377 t378 _ A40.out).mono ?_); rintro e w45 ⟨rfl, hb⟩; refine ⟨_, rfl, ?_⟩; have n0_ := Aside0.mk (below_step (by repeat (first | (with_reducible first | exact HB.out | apply below_alloc | apply pw_below_drewN | apply below_drew1) | exact HB.out)) hb); clear HB; have HB := n0_; clear n0_; (try clear hb); (try clear hb2); (try clear hk); (try clear hi)) | ((with_reducible refine gate_callee (f := 22) rfl ?_); refine goesL_ (some 97) rfl rfl Try.func22 (by kernel_rfl) rfl #[.string a0] rfl (by (try simp only [List.map_toArray, List.map_cons, List.map_nil]); first | done | rfl | (simp only [List.length_drop, List.length_take]; rfl)) ?_; (with_reducible refine (term_Words.calls a0 t379 t380 _ A41.out).mono ?_); rintro e w46 ⟨rfl, hb⟩; refine ⟨_, rfl, ?_⟩; have n0_ := Aside0.mk (below_step (by repeat (first | (with_reducible first | exact HB.out | apply below_alloc | apply pw_below_drewN | apply below_drew1) | exact HB.out)) hb); clear HB; have HB := n0_; clear n0_; (try clear hb); (try clear hb2); (try clear hk); (try clear hi)) | ((with_reducible refine gate_callee (f := 46) rfl ?_); refine goesL_ (some 102) rfl rfl Try.func46 (by kernel_rfl) rfl #[.string a0] rfl (by (try simp only [List.map_toArray, List.map_cons, List.map_nil]); first | done | rfl | (simp only [List.length_drop, List.length_take]; rfl)) ?_; (with_reducible refine (letterlockref3_Words.calls kj7 a0 t381 t382 _ A42.out).mono ?_); rintro e w47 ⟨rfl, hb⟩; refine ⟨_, rfl, ?_⟩; have n0_ := Aside0.mk (below_step (by repeat (first | (with_reducible first | exact HB.out | apply below_alloc | apply pw_below_drewN | apply below_drew1) | exact HB.out)) hb); clear HB; have HB := n0_; clear n0_; (try clear hb); (try clear hb2); (try clear hk); (try clear hi)))
        (try simp only [Act.put, List.setIfInBounds_toArray, List.set_cons_zero, List.set_cons_succ])
        go_cut [122] (fun v122 wc => ∃ (kq : Nat) (x122_42 : Bool), v122 = .bool x122_42 ∧ Aside0 (letterlocklaw3_asked.j1 kq a0 a1 x122_42 = some r) ∧ Aside0 (kq ≤ kj7) ∧ Aside0 (Below w.heap.size w wc))
        case first =>
          have H := HC43.out
          clear HC43
          by_cases c48 : t375 = t377
          · rw [if_pos c48] at H
            have c48b0 : (t375 == t377) = true := beq_iff_eq.mpr c48
            have c48b1 : (t375 != t377) = false := bne_eq_false_iff_eq.mpr c48
            clear c48
            (first | rw [c48b0] | (simp only [i64_w, i32_w]; rw [c48b0]) | skip)
            by_cases c49 : t376 = t378
            · rw [if_pos c49] at H
              have c49b0 : (t376 == t378) = true := beq_iff_eq.mpr c49
              have c49b1 : (t376 != t378) = false := bne_eq_false_iff_eq.mpr c49
              clear c49
              by_cases c50 : t379.toList = t381.toList
              · rw [if_pos c50] at H
                have c50b0 : (t379.toList == t381.toList) = true := beq_iff_eq.mpr c50
                have c50b1 : (t379.toList != t381.toList) = false := bne_eq_false_iff_eq.mpr c50
                clear c50
                have H' := Aside0.mk H
                clear H
                go_wp2
                go_meet
                case rel => exact ⟨_, ((t380 != t382)), (by first | rfl | (simp; done) | (simp [*]; done) | (simp; exact isEmpty_ne _)), H', ⟨by have := HJ7.out; first | omega | exact Nat.le_refl _⟩, ⟨by repeat (first | (with_reducible first | exact HB.out | apply below_alloc | apply pw_below_drewN | apply below_drew1) | exact HB.out)⟩⟩
              · rw [if_neg c50] at H
                have c50b0 : (t379.toList == t381.toList) = false := beq_eq_false_iff_ne.mpr c50
                have c50b1 : (t379.toList != t381.toList) = true := bne_iff_ne.mpr c50
                have H' := Aside0.mk H
                clear H
                go_wp2
                go_meet
                case rel => exact ⟨_, (true), (by first | rfl | (simp; done) | (simp [*]; done) | (simp; exact isEmpty_ne _)), H', ⟨by have := HJ7.out; first | omega | exact Nat.le_refl _⟩, ⟨by repeat (first | (with_reducible first | exact HB.out | apply below_alloc | apply pw_below_drewN | apply below_drew1) | exact HB.out)⟩⟩
            · rw [if_neg c49] at H
              have c49b0 : (t376 == t378) = false := beq_eq_false_iff_ne.mpr c49
              have c49b1 : (t376 != t378) = true := bne_iff_ne.mpr c49
              have H' := Aside0.mk H
              clear H
              go_wp2
              go_meet
              case rel => exact ⟨_, (true), (by first | rfl | (simp; done) | (simp [*]; done) | (simp; exact isEmpty_ne _)), H', ⟨by have := HJ7.out; first | omega | exact Nat.le_refl _⟩, ⟨by repeat (first | (with_reducible first | exact HB.out | apply below_alloc | apply pw_below_drewN | apply below_drew1) | exact HB.out)⟩⟩
          · rw [if_neg c48] at H
            have c48b0 : (t375 == t377) = false := beq_eq_false_iff_ne.mpr c48
            have c48b1 : (t375 != t377) = true := bne_iff_ne.mpr c48
            (first | rw [c48b0] | (simp only [i64_w, i32_w]; rw [c48b0]) | skip)
            have H' := Aside0.mk H
            clear H
            go_wp2
            go_meet
            case rel => exact ⟨_, (true), (by first | rfl | (simp; done) | (simp [*]; done) | (simp; exact isEmpty_ne _)), H', ⟨by have := HJ7.out; first | omega | exact Nat.le_refl _⟩, ⟨by repeat (first | (with_reducible first | exact HB.out | apply below_alloc | apply pw_below_drewN | apply below_drew1) | exact HB.out)⟩⟩
        case rest =>
          clear HC43
          try clear c1
          try clear c2
          try clear p2
          try clear c3
          try clear c4
          try clear c5
          try clear c13
          try clear c13b0
          try clear c13b1
          try clear c14
          try clear c14b0
          try clear c14b1
          try clear c15
          try clear c15b0
          try clear c15b1
          try clear c17
          try clear c18
          try clear c18b0
          try clear c18b1
          try clear c21
          try clear c21b0
          try clear c21b1
          try clear c22
          try clear c23
          try clear c24
          try clear c32
          try clear c38
          try clear c40
          try clear c41
          try clear c45
          try clear c46
          try clear c48
          try clear c48b0
          try clear c48b1
          try clear c49
          try clear c49b0
          try clear c49b1
          try clear c50
          try clear c50b0
          try clear c50b1
          try clear p2
          obtain ⟨kq, x122_42, rfl, HA, HJ42, HB⟩ := hcut
          cases kq with
          | zero => exact absurd HA.out (by simp [letterlocklaw3_asked.j1])
          | succ kj42 =>
            have H := HA.out
            clear HA
            simp only [letterlocklaw3_asked.j1] at H
            by_cases c51 : x122_42 = true
            · subst c51
              have H1 : (some false) = some r := by rw [if_pos rfl] at H; exact H
              clear H
              have H := H1
              clear H1
              obtain rfl := Option.some.inj H
              go_wp2
              go_ret
              exact ⟨by first | rfl | (simp [errW_none, errW_some] <;> rfl) | (simp [*, errW_none, errW_some] <;> rfl), by repeat (first | (with_reducible first | exact HB.out | apply below_alloc | apply pw_below_drewN | apply below_drew1) | exact HB.out)⟩
            · replace c51 := Bool.eq_false_iff.mpr c51
              subst c51
              have H1 : ((term_Open.f a0 a1).bind fun bt383 => ((letterlockref3_Open.f kj42 a0 a1).bind fun bt385 => ((term_Unbox.f a0 a1).bind fun bt387 => ((letterlockref3_Unbox.f kj42 a0 a1).bind fun bt389 => (if bt383.1.toList = bt385.1.toList then (if bt383.2 = bt385.2 then (if bt387.1.toList = bt389.1.toList then (some (bt387.2 == bt389.2)) else (some false)) else (some false)) else (some false)))))) = some r := by rw [if_neg (show ¬ (false = true) by decide)] at H; exact H
              clear H
              have H := H1
              clear H1
              replace H := Option.bind_eq_some_iff.mp H
              obtain ⟨⟨t383, t384⟩, A520, H⟩ := H
              replace H : ((letterlockref3_Open.f kj42 a0 a1).bind fun bt385 => ((term_Unbox.f a0 a1).bind fun bt387 => ((letterlockref3_Unbox.f kj42 a0 a1).bind fun bt389 => (if t383.toList = bt385.1.toList then (if t384 = bt385.2 then (if bt387.1.toList = bt389.1.toList then (some (bt387.2 == bt389.2)) else (some false)) else (some false)) else (some false))))) = some r := H
              have A52 := Aside0.mk A520
              clear A520
              replace H := Option.bind_eq_some_iff.mp H
              obtain ⟨⟨t385, t386⟩, A530, H⟩ := H
              replace H : ((term_Unbox.f a0 a1).bind fun bt387 => ((letterlockref3_Unbox.f kj42 a0 a1).bind fun bt389 => (if t383.toList = t385.toList then (if t384 = t386 then (if bt387.1.toList = bt389.1.toList then (some (bt387.2 == bt389.2)) else (some false)) else (some false)) else (some false)))) = some r := H
              have A53 := Aside0.mk A530
              clear A530
              replace H := Option.bind_eq_some_iff.mp H
              obtain ⟨⟨t387, t388⟩, A540, H⟩ := H
              replace H : ((letterlockref3_Unbox.f kj42 a0 a1).bind fun bt389 => (if t383.toList = t385.toList then (if t384 = t386 then (if t387.toList = bt389.1.toList then (some (t388 == bt389.2)) else (some false)) else (some false)) else (some false))) = some r := H
              have A54 := Aside0.mk A540
              clear A540
              replace H := Option.bind_eq_some_iff.mp H
              obtain ⟨⟨t389, t390⟩, A550, H⟩ := H
              replace H : (if t383.toList = t385.toList then (if t384 = t386 then (if t387.toList = t389.toList then (some (t388 == t390)) else (some false)) else (some false)) else (some false)) = some r := H
              have A55 := Aside0.mk A550
              clear A550
              by_cases c56 : t383.toList = t385.toList
              · rw [if_pos c56] at H
                have c56b0 : (t383.toList == t385.toList) = true := beq_iff_eq.mpr c56
                have c56b1 : (t383.toList != t385.toList) = false := bne_eq_false_iff_eq.mpr c56
                clear c56
                by_cases c57 : t384 = t386
                · rw [if_pos c57] at H
                  have c57b0 : (t384 == t386) = true := beq_iff_eq.mpr c57
                  have c57b1 : (t384 != t386) = false := bne_eq_false_iff_eq.mpr c57
                  clear c57
                  by_cases c58 : t387.toList = t389.toList
                  · rw [if_pos c58] at H
                    have c58b0 : (t387.toList == t389.toList) = true := beq_iff_eq.mpr c58
                    have c58b1 : (t387.toList != t389.toList) = false := bne_eq_false_iff_eq.mpr c58
                    clear c58
                    obtain rfl := Option.some.inj H
                    go_wp2_with (first | ((with_reducible refine gate_callee (f := 17) rfl ?_); refine goesL_ (some 126) rfl rfl Try.func17 (by kernel_rfl) rfl #[.string a0, .string a1] rfl (by (try simp only [List.map_toArray, List.map_cons, List.map_nil]); first | done | rfl | (simp only [List.length_drop, List.length_take]; rfl)) ?_; (with_reducible refine (term_Open.calls a0 a1 t383 t384 _ A52.out).mono ?_); rintro e w59 ⟨rfl, hb⟩; refine ⟨_, rfl, ?_⟩; have n0_ := Aside0.mk (below_step (by repeat (first | (with_reducible first | exact HB.out | apply below_alloc | apply pw_below_drewN | apply below_drew1) | exact HB.out)) hb); clear HB; have HB := n0_; clear n0_; (try clear hb); (try clear hb2); (try clear hk); (try clear hi)) | ((with_reducible refine gate_callee (f := 47) rfl ?_); refine goesL_ (some 132) rfl rfl Try.func47 (by kernel_rfl) rfl #[.string a0, .string a1] rfl (by (try simp only [List.map_toArray, List.map_cons, List.map_nil]); first | done | rfl | (simp only [List.length_drop, List.length_take]; rfl)) ?_; (with_reducible refine (letterlockref3_Open.calls kj42 a0 a1 t385 t386 _ A53.out).mono ?_); rintro e w60 ⟨rfl, hb⟩; refine ⟨_, rfl, ?_⟩; have n0_ := Aside0.mk (below_step (by repeat (first | (with_reducible first | exact HB.out | apply below_alloc | apply pw_below_drewN | apply below_drew1) | exact HB.out)) hb); clear HB; have HB := n0_; clear n0_; (try clear hb); (try clear hb2); (try clear hk); (try clear hi)) | ((with_reducible refine gate_callee (f := 19) rfl ?_); refine goesL_ (some 138) rfl rfl Try.func19 (by kernel_rfl) rfl #[.string a0, .string a1] rfl (by (try simp only [List.map_toArray, List.map_cons, List.map_nil]); first | done | rfl | (simp only [List.length_drop, List.length_take]; rfl)) ?_; (with_reducible refine (term_Unbox.calls a0 a1 t387 t388 _ A54.out).mono ?_); rintro e w61 ⟨rfl, hb⟩; refine ⟨_, rfl, ?_⟩; have n0_ := Aside0.mk (below_step (by repeat (first | (with_reducible first | exact HB.out | apply below_alloc | apply pw_below_drewN | apply below_drew1) | exact HB.out)) hb); clear HB; have HB := n0_; clear n0_; (try clear hb); (try clear hb2); (try clear hk); (try clear hi)) | ((with_reducible refine gate_callee (f := 48) rfl ?_); refine goesL_ (some 144) rfl rfl Try.func48 (by kernel_rfl) rfl #[.string a0, .string a1] rfl (by (try simp only [List.map_toArray, List.map_cons, List.map_nil]); first | done | rfl | (simp only [List.length_drop, List.length_take]; rfl)) ?_; (with_reducible refine (letterlockref3_Unbox.calls kj42 a0 a1 t389 t390 _ A55.out).mono ?_); rintro e w62 ⟨rfl, hb⟩; refine ⟨_, rfl, ?_⟩; have n0_ := Aside0.mk (below_step (by repeat (first | (with_reducible first | exact HB.out | apply below_alloc | apply pw_below_drewN | apply below_drew1) | exact HB.out)) hb); clear HB; have HB := n0_; clear n0_; (try clear hb); (try clear hb2); (try clear hk); (try clear hi)))
                    go_ret
                    exact ⟨by first | rfl | (simp [errW_none, errW_some] <;> rfl) | (simp [*, errW_none, errW_some] <;> rfl), by repeat (first | (with_reducible first | exact HB.out | apply below_alloc | apply pw_below_drewN | apply below_drew1) | exact HB.out)⟩
                  · rw [if_neg c58] at H
                    have c58b0 : (t387.toList == t389.toList) = false := beq_eq_false_iff_ne.mpr c58
                    have c58b1 : (t387.toList != t389.toList) = true := bne_iff_ne.mpr c58
                    obtain rfl := Option.some.inj H
                    go_wp2_with (first | ((with_reducible refine gate_callee (f := 17) rfl ?_); refine goesL_ (some 126) rfl rfl Try.func17 (by kernel_rfl) rfl #[.string a0, .string a1] rfl (by (try simp only [List.map_toArray, List.map_cons, List.map_nil]); first | done | rfl | (simp only [List.length_drop, List.length_take]; rfl)) ?_; (with_reducible refine (term_Open.calls a0 a1 t383 t384 _ A52.out).mono ?_); rintro e w63 ⟨rfl, hb⟩; refine ⟨_, rfl, ?_⟩; have n0_ := Aside0.mk (below_step (by repeat (first | (with_reducible first | exact HB.out | apply below_alloc | apply pw_below_drewN | apply below_drew1) | exact HB.out)) hb); clear HB; have HB := n0_; clear n0_; (try clear hb); (try clear hb2); (try clear hk); (try clear hi)) | ((with_reducible refine gate_callee (f := 47) rfl ?_); refine goesL_ (some 132) rfl rfl Try.func47 (by kernel_rfl) rfl #[.string a0, .string a1] rfl (by (try simp only [List.map_toArray, List.map_cons, List.map_nil]); first | done | rfl | (simp only [List.length_drop, List.length_take]; rfl)) ?_; (with_reducible refine (letterlockref3_Open.calls kj42 a0 a1 t385 t386 _ A53.out).mono ?_); rintro e w64 ⟨rfl, hb⟩; refine ⟨_, rfl, ?_⟩; have n0_ := Aside0.mk (below_step (by repeat (first | (with_reducible first | exact HB.out | apply below_alloc | apply pw_below_drewN | apply below_drew1) | exact HB.out)) hb); clear HB; have HB := n0_; clear n0_; (try clear hb); (try clear hb2); (try clear hk); (try clear hi)) | ((with_reducible refine gate_callee (f := 19) rfl ?_); refine goesL_ (some 138) rfl rfl Try.func19 (by kernel_rfl) rfl #[.string a0, .string a1] rfl (by (try simp only [List.map_toArray, List.map_cons, List.map_nil]); first | done | rfl | (simp only [List.length_drop, List.length_take]; rfl)) ?_; (with_reducible refine (term_Unbox.calls a0 a1 t387 t388 _ A54.out).mono ?_); rintro e w65 ⟨rfl, hb⟩; refine ⟨_, rfl, ?_⟩; have n0_ := Aside0.mk (below_step (by repeat (first | (with_reducible first | exact HB.out | apply below_alloc | apply pw_below_drewN | apply below_drew1) | exact HB.out)) hb); clear HB; have HB := n0_; clear n0_; (try clear hb); (try clear hb2); (try clear hk); (try clear hi)) | ((with_reducible refine gate_callee (f := 48) rfl ?_); refine goesL_ (some 144) rfl rfl Try.func48 (by kernel_rfl) rfl #[.string a0, .string a1] rfl (by (try simp only [List.map_toArray, List.map_cons, List.map_nil]); first | done | rfl | (simp only [List.length_drop, List.length_take]; rfl)) ?_; (with_reducible refine (letterlockref3_Unbox.calls kj42 a0 a1 t389 t390 _ A55.out).mono ?_); rintro e w66 ⟨rfl, hb⟩; refine ⟨_, rfl, ?_⟩; have n0_ := Aside0.mk (below_step (by repeat (first | (with_reducible first | exact HB.out | apply below_alloc | apply pw_below_drewN | apply below_drew1) | exact HB.out)) hb); clear HB; have HB := n0_; clear n0_; (try clear hb); (try clear hb2); (try clear hk); (try clear hi)))
                    go_ret
                    exact ⟨by first | rfl | (simp [errW_none, errW_some] <;> rfl) | (simp [*, errW_none, errW_some] <;> rfl), by repeat (first | (with_reducible first | exact HB.out | apply below_alloc | apply pw_below_drewN | apply below_drew1) | exact HB.out)⟩
                · rw [if_neg c57] at H
                  have c57b0 : (t384 == t386) = false := beq_eq_false_iff_ne.mpr c57
                  have c57b1 : (t384 != t386) = true := bne_iff_ne.mpr c57
                  obtain rfl := Option.some.inj H
                  go_wp2_with (first | ((with_reducible refine gate_callee (f := 17) rfl ?_); refine goesL_ (some 126) rfl rfl Try.func17 (by kernel_rfl) rfl #[.string a0, .string a1] rfl (by (try simp only [List.map_toArray, List.map_cons, List.map_nil]); first | done | rfl | (simp only [List.length_drop, List.length_take]; rfl)) ?_; (with_reducible refine (term_Open.calls a0 a1 t383 t384 _ A52.out).mono ?_); rintro e w67 ⟨rfl, hb⟩; refine ⟨_, rfl, ?_⟩; have n0_ := Aside0.mk (below_step (by repeat (first | (with_reducible first | exact HB.out | apply below_alloc | apply pw_below_drewN | apply below_drew1) | exact HB.out)) hb); clear HB; have HB := n0_; clear n0_; (try clear hb); (try clear hb2); (try clear hk); (try clear hi)) | ((with_reducible refine gate_callee (f := 47) rfl ?_); refine goesL_ (some 132) rfl rfl Try.func47 (by kernel_rfl) rfl #[.string a0, .string a1] rfl (by (try simp only [List.map_toArray, List.map_cons, List.map_nil]); first | done | rfl | (simp only [List.length_drop, List.length_take]; rfl)) ?_; (with_reducible refine (letterlockref3_Open.calls kj42 a0 a1 t385 t386 _ A53.out).mono ?_); rintro e w68 ⟨rfl, hb⟩; refine ⟨_, rfl, ?_⟩; have n0_ := Aside0.mk (below_step (by repeat (first | (with_reducible first | exact HB.out | apply below_alloc | apply pw_below_drewN | apply below_drew1) | exact HB.out)) hb); clear HB; have HB := n0_; clear n0_; (try clear hb); (try clear hb2); (try clear hk); (try clear hi)) | ((with_reducible refine gate_callee (f := 19) rfl ?_); refine goesL_ (some 138) rfl rfl Try.func19 (by kernel_rfl) rfl #[.string a0, .string a1] rfl (by (try simp only [List.map_toArray, List.map_cons, List.map_nil]); first | done | rfl | (simp only [List.length_drop, List.length_take]; rfl)) ?_; (with_reducible refine (term_Unbox.calls a0 a1 t387 t388 _ A54.out).mono ?_); rintro e w69 ⟨rfl, hb⟩; refine ⟨_, rfl, ?_⟩; have n0_ := Aside0.mk (below_step (by repeat (first | (with_reducible first | exact HB.out | apply below_alloc | apply pw_below_drewN | apply below_drew1) | exact HB.out)) hb); clear HB; have HB := n0_; clear n0_; (try clear hb); (try clear hb2); (try clear hk); (try clear hi)) | ((with_reducible refine gate_callee (f := 48) rfl ?_); refine goesL_ (some 144) rfl rfl Try.func48 (by kernel_rfl) rfl #[.string a0, .string a1] rfl (by (try simp only [List.map_toArray, List.map_cons, List.map_nil]); first | done | rfl | (simp only [List.length_drop, List.length_take]; rfl)) ?_; (with_reducible refine (letterlockref3_Unbox.calls kj42 a0 a1 t389 t390 _ A55.out).mono ?_); rintro e w70 ⟨rfl, hb⟩; refine ⟨_, rfl, ?_⟩; have n0_ := Aside0.mk (below_step (by repeat (first | (with_reducible first | exact HB.out | apply below_alloc | apply pw_below_drewN | apply below_drew1) | exact HB.out)) hb); clear HB; have HB := n0_; clear n0_; (try clear hb); (try clear hb2); (try clear hk); (try clear hi)))
                  go_ret
                  exact ⟨by first | rfl | (simp [errW_none, errW_some] <;> rfl) | (simp [*, errW_none, errW_some] <;> rfl), by repeat (first | (with_reducible first | exact HB.out | apply below_alloc | apply pw_below_drewN | apply below_drew1) | exact HB.out)⟩
              · rw [if_neg c56] at H
                have c56b0 : (t383.toList == t385.toList) = false := beq_eq_false_iff_ne.mpr c56
                have c56b1 : (t383.toList != t385.toList) = true := bne_iff_ne.mpr c56
                obtain rfl := Option.some.inj H
                go_wp2_with (first | ((with_reducible refine gate_callee (f := 17) rfl ?_); refine goesL_ (some 126) rfl rfl Try.func17 (by kernel_rfl) rfl #[.string a0, .string a1] rfl (by (try simp only [List.map_toArray, List.map_cons, List.map_nil]); first | done | rfl | (simp only [List.length_drop, List.length_take]; rfl)) ?_; (with_reducible refine (term_Open.calls a0 a1 t383 t384 _ A52.out).mono ?_); rintro e w71 ⟨rfl, hb⟩; refine ⟨_, rfl, ?_⟩; have n0_ := Aside0.mk (below_step (by repeat (first | (with_reducible first | exact HB.out | apply below_alloc | apply pw_below_drewN | apply below_drew1) | exact HB.out)) hb); clear HB; have HB := n0_; clear n0_; (try clear hb); (try clear hb2); (try clear hk); (try clear hi)) | ((with_reducible refine gate_callee (f := 47) rfl ?_); refine goesL_ (some 132) rfl rfl Try.func47 (by kernel_rfl) rfl #[.string a0, .string a1] rfl (by (try simp only [List.map_toArray, List.map_cons, List.map_nil]); first | done | rfl | (simp only [List.length_drop, List.length_take]; rfl)) ?_; (with_reducible refine (letterlockref3_Open.calls kj42 a0 a1 t385 t386 _ A53.out).mono ?_); rintro e w72 ⟨rfl, hb⟩; refine ⟨_, rfl, ?_⟩; have n0_ := Aside0.mk (below_step (by repeat (first | (with_reducible first | exact HB.out | apply below_alloc | apply pw_below_drewN | apply below_drew1) | exact HB.out)) hb); clear HB; have HB := n0_; clear n0_; (try clear hb); (try clear hb2); (try clear hk); (try clear hi)) | ((with_reducible refine gate_callee (f := 19) rfl ?_); refine goesL_ (some 138) rfl rfl Try.func19 (by kernel_rfl) rfl #[.string a0, .string a1] rfl (by (try simp only [List.map_toArray, List.map_cons, List.map_nil]); first | done | rfl | (simp only [List.length_drop, List.length_take]; rfl)) ?_; (with_reducible refine (term_Unbox.calls a0 a1 t387 t388 _ A54.out).mono ?_); rintro e w73 ⟨rfl, hb⟩; refine ⟨_, rfl, ?_⟩; have n0_ := Aside0.mk (below_step (by repeat (first | (with_reducible first | exact HB.out | apply below_alloc | apply pw_below_drewN | apply below_drew1) | exact HB.out)) hb); clear HB; have HB := n0_; clear n0_; (try clear hb); (try clear hb2); (try clear hk); (try clear hi)) | ((with_reducible refine gate_callee (f := 48) rfl ?_); refine goesL_ (some 144) rfl rfl Try.func48 (by kernel_rfl) rfl #[.string a0, .string a1] rfl (by (try simp only [List.map_toArray, List.map_cons, List.map_nil]); first | done | rfl | (simp only [List.length_drop, List.length_take]; rfl)) ?_; (with_reducible refine (letterlockref3_Unbox.calls kj42 a0 a1 t389 t390 _ A55.out).mono ?_); rintro e w74 ⟨rfl, hb⟩; refine ⟨_, rfl, ?_⟩; have n0_ := Aside0.mk (below_step (by repeat (first | (with_reducible first | exact HB.out | apply below_alloc | apply pw_below_drewN | apply below_drew1) | exact HB.out)) hb); clear HB; have HB := n0_; clear n0_; (try clear hb); (try clear hb2); (try clear hk); (try clear hi)))
                go_ret
                exact ⟨by first | rfl | (simp [errW_none, errW_some] <;> rfl) | (simp [*, errW_none, errW_some] <;> rfl), by repeat (first | (with_reducible first | exact HB.out | apply below_alloc | apply pw_below_drewN | apply below_drew1) | exact HB.out)⟩

/-! ### letterlocklaw3_made: function 31 -/
mutual
def letterlocklaw3_made.j0 : Nat → ByteArray → ByteArray → Bool → Option (Bool)
  | 0, _, _, _ => none
  | k + 1, x1, x2, x35 => if x35 = true then (some false) else ((term_OfPair.f x1 x2).bind fun bt432 => ((letterlockref3_OfPair.f k x1 x2).bind fun bt434 => (if bt432.1.toList = bt434.1.toList then (letterlocklaw3_made.j1 k x1 x2 (bt432.2 != bt434.2)) else (letterlocklaw3_made.j1 k x1 x2 true))))
def letterlocklaw3_made.j1 : Nat → ByteArray → ByteArray → Bool → Option (Bool)
  | 0, _, _, _ => none
  | k + 1, x1, x2, x55 => if x55 = true then (some false) else ((term_OfHash.f x1).bind fun bt436 => ((letterlockref3_OfHash.f k x1).bind fun bt438 => (if bt436.1.toList = bt438.1.toList then (letterlocklaw3_made.j2 k x1 x2 (bt436.2 != bt438.2)) else (letterlocklaw3_made.j2 k x1 x2 true))))
def letterlocklaw3_made.j2 : Nat → ByteArray → ByteArray → Bool → Option (Bool)
  | 0, _, _, _ => none
  | k + 1, x1, x2, x73 => if x73 = true then (some false) else ((term_Seal.f x1 x2).bind fun bt440 => ((letterlockref3_Seal.f k x1 x2).bind fun bt442 => (if bt440.1.toList = bt442.1.toList then (letterlocklaw3_made.j3 k x1 x2 (bt440.2 != bt442.2)) else (letterlocklaw3_made.j3 k x1 x2 true))))
def letterlocklaw3_made.j3 : Nat → ByteArray → ByteArray → Bool → Option (Bool)
  | 0, _, _, _ => none
  | k + 1, x1, x2, x93 => if x93 = true then (some false) else ((term_OfPublic.f x1).bind fun bt444 => ((letterlockref3_OfPublic.f k x1).bind fun bt446 => (if bt444.1.toList = bt446.1.toList then (letterlocklaw3_made.j4 k x1 x2 (bt444.2 != bt446.2)) else (letterlocklaw3_made.j4 k x1 x2 true))))
def letterlocklaw3_made.j4 : Nat → ByteArray → ByteArray → Bool → Option (Bool)
  | 0, _, _, _ => none
  | k + 1, x1, x2, x111 => if x111 = true then (some false) else ((term_Box.f x1 x2).bind fun bt448 => ((letterlockref3_Box.f k x1 x2).bind fun bt450 => (if bt448.1.toList = bt450.1.toList then (letterlocklaw3_made.j5 k x1 x2 (bt448.2 != bt450.2)) else (letterlocklaw3_made.j5 k x1 x2 true))))
def letterlocklaw3_made.j5 : Nat → ByteArray → ByteArray → Bool → Option (Bool)
  | 0, _, _, _ => none
  | k + 1, x1, x2, x131 => if x131 = true then (some false) else ((term_Sign.f x1 x2).bind fun bt452 => ((letterlockref3_Sign.f k x1 x2).bind fun bt454 => (if bt452.1.toList = bt454.1.toList then (some (bt452.2 == bt454.2)) else (some false))))
end
def letterlocklaw3_made.f (k : Nat) (a0 : Int) (a1 : ByteArray) (a2 : ByteArray) : Option (Bool) := (term_OfText.f k a1).bind fun bt426 => ((letterlockref3_OfText.f k a1).bind fun bt428 => (if bt426.1.toList = bt428.1.toList then (if bt426.2 = bt428.2 then ((term_OfAtom.f k a0).bind fun t430 => ((letterlockref3_OfAtom.f k a0).bind fun t431 => (letterlocklaw3_made.j0 k a1 a2 (t430.toList != t431.toList)))) else (letterlocklaw3_made.j0 k a1 a2 true)) else (letterlocklaw3_made.j0 k a1 a2 true)))
theorem letterlocklaw3_made.mono_l : ∀ k, (∀ y0 y1 y2, LeO (letterlocklaw3_made.j0 k y0 y1 y2) (letterlocklaw3_made.j0 (k + 1) y0 y1 y2)) ∧ (∀ y0 y1 y2, LeO (letterlocklaw3_made.j1 k y0 y1 y2) (letterlocklaw3_made.j1 (k + 1) y0 y1 y2)) ∧ (∀ y0 y1 y2, LeO (letterlocklaw3_made.j2 k y0 y1 y2) (letterlocklaw3_made.j2 (k + 1) y0 y1 y2)) ∧ (∀ y0 y1 y2, LeO (letterlocklaw3_made.j3 k y0 y1 y2) (letterlocklaw3_made.j3 (k + 1) y0 y1 y2)) ∧ (∀ y0 y1 y2, LeO (letterlocklaw3_made.j4 k y0 y1 y2) (letterlocklaw3_made.j4 (k + 1) y0 y1 y2)) ∧ (∀ y0 y1 y2, LeO (letterlocklaw3_made.j5 k y0 y1 y2) (letterlocklaw3_made.j5 (k + 1) y0 y1 y2))
  | 0 => ⟨fun _ _ _ r h => by simp [letterlocklaw3_made.j0] at h, fun _ _ _ r h => by simp [letterlocklaw3_made.j1] at h, fun _ _ _ r h => by simp [letterlocklaw3_made.j2] at h, fun _ _ _ r h => by simp [letterlocklaw3_made.j3] at h, fun _ _ _ r h => by simp [letterlocklaw3_made.j4] at h, fun _ _ _ r h => by simp [letterlocklaw3_made.j5] at h⟩
  | k + 1 => by
    obtain ⟨ih0, ih1, ih2, ih3, ih4, ih5⟩ := letterlocklaw3_made.mono_l k
    refine ⟨?_, ?_, ?_, ?_, ?_, ?_⟩
    · intro y0 y1 y2
      unfold letterlocklaw3_made.j0
      repeat' first
      | (with_reducible exact ih0 _ _ _)
      | (with_reducible exact ih1 _ _ _)
      | (with_reducible exact ih2 _ _ _)
      | (with_reducible exact ih3 _ _ _)
      | (with_reducible exact ih4 _ _ _)
      | (with_reducible exact ih5 _ _ _)
      | (with_reducible exact letterlockref3_Box.mono _ _ _)
      | (with_reducible exact letterlockref3_OfAtom.mono _ _)
      | (with_reducible exact letterlockref3_OfHash.mono _ _)
      | (with_reducible exact letterlockref3_OfPair.mono _ _ _)
      | (with_reducible exact letterlockref3_OfPublic.mono _ _)
      | (with_reducible exact letterlockref3_OfText.mono _ _)
      | (with_reducible exact letterlockref3_Seal.mono _ _ _)
      | (with_reducible exact letterlockref3_Sign.mono _ _ _)
      | (with_reducible exact term_OfAtom.mono _ _)
      | (with_reducible exact term_OfText.mono _ _)
      | (with_reducible exact LeO.refl _)
      | (with_reducible exact LeO.none _)
      | (with_reducible refine LeO.ite ?_ ?_)
      | (with_reducible refine LeO.bind ?_ (fun _ => ?_))
      | exact ih0 _ _ _
      | exact ih1 _ _ _
      | exact ih2 _ _ _
      | exact ih3 _ _ _
      | exact ih4 _ _ _
      | exact ih5 _ _ _
      | exact letterlockref3_Box.mono _ _ _
      | exact letterlockref3_OfAtom.mono _ _
      | exact letterlockref3_OfHash.mono _ _
      | exact letterlockref3_OfPair.mono _ _ _
      | exact letterlockref3_OfPublic.mono _ _
      | exact letterlockref3_OfText.mono _ _
      | exact letterlockref3_Seal.mono _ _ _
      | exact letterlockref3_Sign.mono _ _ _
      | exact term_OfAtom.mono _ _
      | exact term_OfText.mono _ _
      | exact LeO.none _
      | refine LeO.ite ?_ ?_
      | refine LeO.bind ?_ (fun _ => ?_)
    · intro y0 y1 y2
      unfold letterlocklaw3_made.j1
      repeat' first
      | (with_reducible exact ih0 _ _ _)
      | (with_reducible exact ih1 _ _ _)
      | (with_reducible exact ih2 _ _ _)
      | (with_reducible exact ih3 _ _ _)
      | (with_reducible exact ih4 _ _ _)
      | (with_reducible exact ih5 _ _ _)
      | (with_reducible exact letterlockref3_Box.mono _ _ _)
      | (with_reducible exact letterlockref3_OfAtom.mono _ _)
      | (with_reducible exact letterlockref3_OfHash.mono _ _)
      | (with_reducible exact letterlockref3_OfPair.mono _ _ _)
      | (with_reducible exact letterlockref3_OfPublic.mono _ _)
      | (with_reducible exact letterlockref3_OfText.mono _ _)
      | (with_reducible exact letterlockref3_Seal.mono _ _ _)
      | (with_reducible exact letterlockref3_Sign.mono _ _ _)
      | (with_reducible exact term_OfAtom.mono _ _)
      | (with_reducible exact term_OfText.mono _ _)
      | (with_reducible exact LeO.refl _)
      | (with_reducible exact LeO.none _)
      | (with_reducible refine LeO.ite ?_ ?_)
      | (with_reducible refine LeO.bind ?_ (fun _ => ?_))
      | exact ih0 _ _ _
      | exact ih1 _ _ _
      | exact ih2 _ _ _
      | exact ih3 _ _ _
      | exact ih4 _ _ _
      | exact ih5 _ _ _
      | exact letterlockref3_Box.mono _ _ _
      | exact letterlockref3_OfAtom.mono _ _
      | exact letterlockref3_OfHash.mono _ _
      | exact letterlockref3_OfPair.mono _ _ _
      | exact letterlockref3_OfPublic.mono _ _
      | exact letterlockref3_OfText.mono _ _
      | exact letterlockref3_Seal.mono _ _ _
      | exact letterlockref3_Sign.mono _ _ _
      | exact term_OfAtom.mono _ _
      | exact term_OfText.mono _ _
      | exact LeO.none _
      | refine LeO.ite ?_ ?_
      | refine LeO.bind ?_ (fun _ => ?_)
    · intro y0 y1 y2
      unfold letterlocklaw3_made.j2
      repeat' first
      | (with_reducible exact ih0 _ _ _)
      | (with_reducible exact ih1 _ _ _)
      | (with_reducible exact ih2 _ _ _)
      | (with_reducible exact ih3 _ _ _)
      | (with_reducible exact ih4 _ _ _)
      | (with_reducible exact ih5 _ _ _)
      | (with_reducible exact letterlockref3_Box.mono _ _ _)
      | (with_reducible exact letterlockref3_OfAtom.mono _ _)
      | (with_reducible exact letterlockref3_OfHash.mono _ _)
      | (with_reducible exact letterlockref3_OfPair.mono _ _ _)
      | (with_reducible exact letterlockref3_OfPublic.mono _ _)
      | (with_reducible exact letterlockref3_OfText.mono _ _)
      | (with_reducible exact letterlockref3_Seal.mono _ _ _)
      | (with_reducible exact letterlockref3_Sign.mono _ _ _)
      | (with_reducible exact term_OfAtom.mono _ _)
      | (with_reducible exact term_OfText.mono _ _)
      | (with_reducible exact LeO.refl _)
      | (with_reducible exact LeO.none _)
      | (with_reducible refine LeO.ite ?_ ?_)
      | (with_reducible refine LeO.bind ?_ (fun _ => ?_))
      | exact ih0 _ _ _
      | exact ih1 _ _ _
      | exact ih2 _ _ _
      | exact ih3 _ _ _
      | exact ih4 _ _ _
      | exact ih5 _ _ _
      | exact letterlockref3_Box.mono _ _ _
      | exact letterlockref3_OfAtom.mono _ _
      | exact letterlockref3_OfHash.mono _ _
      | exact letterlockref3_OfPair.mono _ _ _
      | exact letterlockref3_OfPublic.mono _ _
      | exact letterlockref3_OfText.mono _ _
      | exact letterlockref3_Seal.mono _ _ _
      | exact letterlockref3_Sign.mono _ _ _
      | exact term_OfAtom.mono _ _
      | exact term_OfText.mono _ _
      | exact LeO.none _
      | refine LeO.ite ?_ ?_
      | refine LeO.bind ?_ (fun _ => ?_)
    · intro y0 y1 y2
      unfold letterlocklaw3_made.j3
      repeat' first
      | (with_reducible exact ih0 _ _ _)
      | (with_reducible exact ih1 _ _ _)
      | (with_reducible exact ih2 _ _ _)
      | (with_reducible exact ih3 _ _ _)
      | (with_reducible exact ih4 _ _ _)
      | (with_reducible exact ih5 _ _ _)
      | (with_reducible exact letterlockref3_Box.mono _ _ _)
      | (with_reducible exact letterlockref3_OfAtom.mono _ _)
      | (with_reducible exact letterlockref3_OfHash.mono _ _)
      | (with_reducible exact letterlockref3_OfPair.mono _ _ _)
      | (with_reducible exact letterlockref3_OfPublic.mono _ _)
      | (with_reducible exact letterlockref3_OfText.mono _ _)
      | (with_reducible exact letterlockref3_Seal.mono _ _ _)
      | (with_reducible exact letterlockref3_Sign.mono _ _ _)
      | (with_reducible exact term_OfAtom.mono _ _)
      | (with_reducible exact term_OfText.mono _ _)
      | (with_reducible exact LeO.refl _)
      | (with_reducible exact LeO.none _)
      | (with_reducible refine LeO.ite ?_ ?_)
      | (with_reducible refine LeO.bind ?_ (fun _ => ?_))
      | exact ih0 _ _ _
      | exact ih1 _ _ _
      | exact ih2 _ _ _
      | exact ih3 _ _ _
      | exact ih4 _ _ _
      | exact ih5 _ _ _
      | exact letterlockref3_Box.mono _ _ _
      | exact letterlockref3_OfAtom.mono _ _
      | exact letterlockref3_OfHash.mono _ _
      | exact letterlockref3_OfPair.mono _ _ _
      | exact letterlockref3_OfPublic.mono _ _
      | exact letterlockref3_OfText.mono _ _
      | exact letterlockref3_Seal.mono _ _ _
      | exact letterlockref3_Sign.mono _ _ _
      | exact term_OfAtom.mono _ _
      | exact term_OfText.mono _ _
      | exact LeO.none _
      | refine LeO.ite ?_ ?_
      | refine LeO.bind ?_ (fun _ => ?_)
    · intro y0 y1 y2
      unfold letterlocklaw3_made.j4
      repeat' first
      | (with_reducible exact ih0 _ _ _)
      | (with_reducible exact ih1 _ _ _)
      | (with_reducible exact ih2 _ _ _)
      | (with_reducible exact ih3 _ _ _)
      | (with_reducible exact ih4 _ _ _)
      | (with_reducible exact ih5 _ _ _)
      | (with_reducible exact letterlockref3_Box.mono _ _ _)
      | (with_reducible exact letterlockref3_OfAtom.mono _ _)
      | (with_reducible exact letterlockref3_OfHash.mono _ _)
      | (with_reducible exact letterlockref3_OfPair.mono _ _ _)
      | (with_reducible exact letterlockref3_OfPublic.mono _ _)
      | (with_reducible exact letterlockref3_OfText.mono _ _)
      | (with_reducible exact letterlockref3_Seal.mono _ _ _)
      | (with_reducible exact letterlockref3_Sign.mono _ _ _)
      | (with_reducible exact term_OfAtom.mono _ _)
      | (with_reducible exact term_OfText.mono _ _)
      | (with_reducible exact LeO.refl _)
      | (with_reducible exact LeO.none _)
      | (with_reducible refine LeO.ite ?_ ?_)
      | (with_reducible refine LeO.bind ?_ (fun _ => ?_))
      | exact ih0 _ _ _
      | exact ih1 _ _ _
      | exact ih2 _ _ _
      | exact ih3 _ _ _
      | exact ih4 _ _ _
      | exact ih5 _ _ _
      | exact letterlockref3_Box.mono _ _ _
      | exact letterlockref3_OfAtom.mono _ _
      | exact letterlockref3_OfHash.mono _ _
      | exact letterlockref3_OfPair.mono _ _ _
      | exact letterlockref3_OfPublic.mono _ _
      | exact letterlockref3_OfText.mono _ _
      | exact letterlockref3_Seal.mono _ _ _
      | exact letterlockref3_Sign.mono _ _ _
      | exact term_OfAtom.mono _ _
      | exact term_OfText.mono _ _
      | exact LeO.none _
      | refine LeO.ite ?_ ?_
      | refine LeO.bind ?_ (fun _ => ?_)
    · intro y0 y1 y2
      unfold letterlocklaw3_made.j5
      repeat' first
      | (with_reducible exact ih0 _ _ _)
      | (with_reducible exact ih1 _ _ _)
      | (with_reducible exact ih2 _ _ _)
      | (with_reducible exact ih3 _ _ _)
      | (with_reducible exact ih4 _ _ _)
      | (with_reducible exact ih5 _ _ _)
      | (with_reducible exact letterlockref3_Box.mono _ _ _)
      | (with_reducible exact letterlockref3_OfAtom.mono _ _)
      | (with_reducible exact letterlockref3_OfHash.mono _ _)
      | (with_reducible exact letterlockref3_OfPair.mono _ _ _)
      | (with_reducible exact letterlockref3_OfPublic.mono _ _)
      | (with_reducible exact letterlockref3_OfText.mono _ _)
      | (with_reducible exact letterlockref3_Seal.mono _ _ _)
      | (with_reducible exact letterlockref3_Sign.mono _ _ _)
      | (with_reducible exact term_OfAtom.mono _ _)
      | (with_reducible exact term_OfText.mono _ _)
      | (with_reducible exact LeO.refl _)
      | (with_reducible exact LeO.none _)
      | (with_reducible refine LeO.ite ?_ ?_)
      | (with_reducible refine LeO.bind ?_ (fun _ => ?_))
      | exact ih0 _ _ _
      | exact ih1 _ _ _
      | exact ih2 _ _ _
      | exact ih3 _ _ _
      | exact ih4 _ _ _
      | exact ih5 _ _ _
      | exact letterlockref3_Box.mono _ _ _
      | exact letterlockref3_OfAtom.mono _ _
      | exact letterlockref3_OfHash.mono _ _
      | exact letterlockref3_OfPair.mono _ _ _
      | exact letterlockref3_OfPublic.mono _ _
      | exact letterlockref3_OfText.mono _ _
      | exact letterlockref3_Seal.mono _ _ _
      | exact letterlockref3_Sign.mono _ _ _
      | exact term_OfAtom.mono _ _
      | exact term_OfText.mono _ _
      | exact LeO.none _
      | refine LeO.ite ?_ ?_
      | refine LeO.bind ?_ (fun _ => ?_)
theorem letterlocklaw3_made.mono : ∀ a0 a1 a2 k, LeO (letterlocklaw3_made.f k a0 a1 a2) (letterlocklaw3_made.f (k + 1) a0 a1 a2) := by
  intro a0 a1 a2 k
  obtain ⟨ih0, ih1, ih2, ih3, ih4, ih5⟩ := letterlocklaw3_made.mono_l k
  unfold letterlocklaw3_made.f
  repeat' first
      | (with_reducible exact ih0 _ _ _)
      | (with_reducible exact ih1 _ _ _)
      | (with_reducible exact ih2 _ _ _)
      | (with_reducible exact ih3 _ _ _)
      | (with_reducible exact ih4 _ _ _)
      | (with_reducible exact ih5 _ _ _)
      | (with_reducible exact letterlockref3_Box.mono _ _ _)
      | (with_reducible exact letterlockref3_OfAtom.mono _ _)
      | (with_reducible exact letterlockref3_OfHash.mono _ _)
      | (with_reducible exact letterlockref3_OfPair.mono _ _ _)
      | (with_reducible exact letterlockref3_OfPublic.mono _ _)
      | (with_reducible exact letterlockref3_OfText.mono _ _)
      | (with_reducible exact letterlockref3_Seal.mono _ _ _)
      | (with_reducible exact letterlockref3_Sign.mono _ _ _)
      | (with_reducible exact term_OfAtom.mono _ _)
      | (with_reducible exact term_OfText.mono _ _)
      | (with_reducible exact LeO.refl _)
      | (with_reducible exact LeO.none _)
      | (with_reducible refine LeO.ite ?_ ?_)
      | (with_reducible refine LeO.bind ?_ (fun _ => ?_))
      | exact ih0 _ _ _
      | exact ih1 _ _ _
      | exact ih2 _ _ _
      | exact ih3 _ _ _
      | exact ih4 _ _ _
      | exact ih5 _ _ _
      | exact letterlockref3_Box.mono _ _ _
      | exact letterlockref3_OfAtom.mono _ _
      | exact letterlockref3_OfHash.mono _ _
      | exact letterlockref3_OfPair.mono _ _ _
      | exact letterlockref3_OfPublic.mono _ _
      | exact letterlockref3_OfText.mono _ _
      | exact letterlockref3_Seal.mono _ _ _
      | exact letterlockref3_Sign.mono _ _ _
      | exact term_OfAtom.mono _ _
      | exact term_OfText.mono _ _
      | exact LeO.none _
      | refine LeO.ite ?_ ?_
      | refine LeO.bind ?_ (fun _ => ?_)
set_option maxHeartbeats 8000000 in
set_option maxRecDepth 100000 in
theorem letterlocklaw3_made.calls (k : Nat) (a0 : Int) (a1 : ByteArray) (a2 : ByteArray) (r : Bool) (w : World) (h : letterlocklaw3_made.f k a0 a1 a2 = some r) :
    Calls Try.prog 31 #[.int .u64 a0, .string a1, .string a2] w fun e w' => e = .returned (.bool r) ∧ Below w.heap.size w w' := by
  have HB := Aside0.mk (Below.refl w.heap.size w)
  have H : ((term_OfText.f k a1).bind fun bt426 => ((letterlockref3_OfText.f k a1).bind fun bt428 => (if bt426.1.toList = bt428.1.toList then (if bt426.2 = bt428.2 then ((term_OfAtom.f k a0).bind fun t430 => ((letterlockref3_OfAtom.f k a0).bind fun t431 => (letterlocklaw3_made.j0 k a1 a2 (t430.toList != t431.toList)))) else (letterlocklaw3_made.j0 k a1 a2 true)) else (letterlocklaw3_made.j0 k a1 a2 true)))) = some r := h
  clear h
  replace H := Option.bind_eq_some_iff.mp H
  obtain ⟨⟨t426, t427⟩, A40, H⟩ := H
  replace H : ((letterlockref3_OfText.f k a1).bind fun bt428 => (if t426.toList = bt428.1.toList then (if t427 = bt428.2 then ((term_OfAtom.f k a0).bind fun t430 => ((letterlockref3_OfAtom.f k a0).bind fun t431 => (letterlocklaw3_made.j0 k a1 a2 (t430.toList != t431.toList)))) else (letterlocklaw3_made.j0 k a1 a2 true)) else (letterlocklaw3_made.j0 k a1 a2 true))) = some r := H
  have A4 := Aside0.mk A40
  clear A40
  replace H := Option.bind_eq_some_iff.mp H
  obtain ⟨⟨t428, t429⟩, A50, H⟩ := H
  replace H : (if t426.toList = t428.toList then (if t427 = t429 then ((term_OfAtom.f k a0).bind fun t430 => ((letterlockref3_OfAtom.f k a0).bind fun t431 => (letterlocklaw3_made.j0 k a1 a2 (t430.toList != t431.toList)))) else (letterlocklaw3_made.j0 k a1 a2 true)) else (letterlocklaw3_made.j0 k a1 a2 true)) = some r := H
  have A5 := Aside0.mk A50
  clear A50
  have HC6 := Aside0.mk H
  clear H
  go_enter Try.func31, Try.ntmps31
  go_upto_region 3 with (first | ((with_reducible refine gate_callee (f := 27) rfl ?_); refine goesL_ (some 13) rfl rfl Try.func27 (by kernel_rfl) rfl #[.string a1] rfl (by (try simp only [List.map_toArray, List.map_cons, List.map_nil]); first | done | rfl | (simp only [List.length_drop, List.length_take]; rfl)) ?_; (with_reducible refine (term_OfText.calls k a1 t426 t427 _ A4.out).mono ?_); rintro e w7 ⟨rfl, hb⟩; refine ⟨_, rfl, ?_⟩; have n0_ := Aside0.mk (below_step (by repeat (first | (with_reducible first | exact HB.out | apply below_alloc | apply pw_below_drewN | apply below_drew1) | exact HB.out)) hb); clear HB; have HB := n0_; clear n0_; (try clear hb); (try clear hb2); (try clear hk); (try clear hi)) | ((with_reducible refine gate_callee (f := 33) rfl ?_); refine goesL_ (some 18) rfl rfl Try.func33 (by kernel_rfl) rfl #[.string a1] rfl (by (try simp only [List.map_toArray, List.map_cons, List.map_nil]); first | done | rfl | (simp only [List.length_drop, List.length_take]; rfl)) ?_; (with_reducible refine (letterlockref3_OfText.calls k a1 t428 t429 _ A5.out).mono ?_); rintro e w8 ⟨rfl, hb⟩; refine ⟨_, rfl, ?_⟩; have n0_ := Aside0.mk (below_step (by repeat (first | (with_reducible first | exact HB.out | apply below_alloc | apply pw_below_drewN | apply below_drew1) | exact HB.out)) hb); clear HB; have HB := n0_; clear n0_; (try clear hb); (try clear hb2); (try clear hk); (try clear hi)))
  (try simp only [Act.put, List.setIfInBounds_toArray, List.set_cons_zero, List.set_cons_succ])
  go_cut [35] (fun v35 wc => ∃ (kq : Nat) (x35_5 : Bool), v35 = .bool x35_5 ∧ Aside0 (letterlocklaw3_made.j0 kq a1 a2 x35_5 = some r) ∧ Aside0 (kq ≤ k) ∧ Aside0 (Below w.heap.size w wc))
  case first =>
    have H := HC6.out
    clear HC6
    by_cases c9 : t426.toList = t428.toList
    · rw [if_pos c9] at H
      have c9b0 : (t426.toList == t428.toList) = true := beq_iff_eq.mpr c9
      have c9b1 : (t426.toList != t428.toList) = false := bne_eq_false_iff_eq.mpr c9
      clear c9
      (first | rw [c9b0] | (simp only [i64_w, i32_w]; rw [c9b0]) | skip)
      by_cases c10 : t427 = t429
      · rw [if_pos c10] at H
        have c10b0 : (t427 == t429) = true := beq_iff_eq.mpr c10
        have c10b1 : (t427 != t429) = false := bne_eq_false_iff_eq.mpr c10
        clear c10
        replace H := Option.bind_eq_some_iff.mp H
        obtain ⟨t430, A110, H⟩ := H
        replace H : ((letterlockref3_OfAtom.f k a0).bind fun t431 => (letterlocklaw3_made.j0 k a1 a2 (t430.toList != t431.toList))) = some r := H
        have A11 := Aside0.mk A110
        clear A110
        replace H := Option.bind_eq_some_iff.mp H
        obtain ⟨t431, A120, H⟩ := H
        replace H : (letterlocklaw3_made.j0 k a1 a2 (t430.toList != t431.toList)) = some r := H
        have A12 := Aside0.mk A120
        clear A120
        have H' := Aside0.mk H
        clear H
        go_wp2_with (first | (go_at_call 29; (with_reducible refine (term_OfAtom.calls k a0 t430 _ A11.out).mono ?_); rintro e w13 ⟨rfl, hb⟩; have n0_ := Aside0.mk (below_step (by repeat (first | (with_reducible first | exact HB.out | apply below_alloc | apply pw_below_drewN | apply below_drew1) | exact HB.out)) hb); clear HB; have HB := n0_; clear n0_; (try clear hb); (try clear hb2); (try clear hk); (try clear hi)) | (go_at_call 25; (with_reducible refine (letterlockref3_OfAtom.calls k a0 t431 _ A12.out).mono ?_); rintro e w14 ⟨rfl, hb⟩; have n0_ := Aside0.mk (below_step (by repeat (first | (with_reducible first | exact HB.out | apply below_alloc | apply pw_below_drewN | apply below_drew1) | exact HB.out)) hb); clear HB; have HB := n0_; clear n0_; (try clear hb); (try clear hb2); (try clear hk); (try clear hi)))
        go_meet
        case rel => exact ⟨_, ((t430.toList != t431.toList)), (by first | rfl | (simp; done) | (simp [*]; done) | (simp; exact isEmpty_ne _)), H', ⟨by first | omega | exact Nat.le_refl _⟩, ⟨by repeat (first | (with_reducible first | exact HB.out | apply below_alloc | apply pw_below_drewN | apply below_drew1) | exact HB.out)⟩⟩
      · rw [if_neg c10] at H
        have c10b0 : (t427 == t429) = false := beq_eq_false_iff_ne.mpr c10
        have c10b1 : (t427 != t429) = true := bne_iff_ne.mpr c10
        have H' := Aside0.mk H
        clear H
        go_wp2
        go_meet
        case rel => exact ⟨_, (true), (by first | rfl | (simp; done) | (simp [*]; done) | (simp; exact isEmpty_ne _)), H', ⟨by first | omega | exact Nat.le_refl _⟩, ⟨by repeat (first | (with_reducible first | exact HB.out | apply below_alloc | apply pw_below_drewN | apply below_drew1) | exact HB.out)⟩⟩
    · rw [if_neg c9] at H
      have c9b0 : (t426.toList == t428.toList) = false := beq_eq_false_iff_ne.mpr c9
      have c9b1 : (t426.toList != t428.toList) = true := bne_iff_ne.mpr c9
      (first | rw [c9b0] | (simp only [i64_w, i32_w]; rw [c9b0]) | skip)
      have H' := Aside0.mk H
      clear H
      go_wp2
      go_meet
      case rel => exact ⟨_, (true), (by first | rfl | (simp; done) | (simp [*]; done) | (simp; exact isEmpty_ne _)), H', ⟨by first | omega | exact Nat.le_refl _⟩, ⟨by repeat (first | (with_reducible first | exact HB.out | apply below_alloc | apply pw_below_drewN | apply below_drew1) | exact HB.out)⟩⟩
  case rest =>
    clear HC6
    try clear c1
    try clear c2
    try clear p2
    try clear c3
    try clear c9
    try clear c9b0
    try clear c9b1
    try clear c10
    try clear c10b0
    try clear c10b1
    obtain ⟨kq, x35_5, rfl, HA, HJ5, HB⟩ := hcut
    cases kq with
    | zero => exact absurd HA.out (by simp [letterlocklaw3_made.j0])
    | succ kj5 =>
      have H := HA.out
      clear HA
      simp only [letterlocklaw3_made.j0] at H
      by_cases c15 : x35_5 = true
      · subst c15
        have H1 : (some false) = some r := by rw [if_pos rfl] at H; exact H
        clear H
        have H := H1
        clear H1
        obtain rfl := Option.some.inj H
        go_wp2
        go_ret
        exact ⟨by first | rfl | (simp [errW_none, errW_some] <;> rfl) | (simp [*, errW_none, errW_some] <;> rfl), by repeat (first | (with_reducible first | exact HB.out | apply below_alloc | apply pw_below_drewN | apply below_drew1) | exact HB.out)⟩
      · replace c15 := Bool.eq_false_iff.mpr c15
        subst c15
        have H1 : ((term_OfPair.f a1 a2).bind fun bt432 => ((letterlockref3_OfPair.f kj5 a1 a2).bind fun bt434 => (if bt432.1.toList = bt434.1.toList then (letterlocklaw3_made.j1 kj5 a1 a2 (bt432.2 != bt434.2)) else (letterlocklaw3_made.j1 kj5 a1 a2 true)))) = some r := by rw [if_neg (show ¬ (false = true) by decide)] at H; exact H
        clear H
        have H := H1
        clear H1
        replace H := Option.bind_eq_some_iff.mp H
        obtain ⟨⟨t432, t433⟩, A160, H⟩ := H
        replace H : ((letterlockref3_OfPair.f kj5 a1 a2).bind fun bt434 => (if t432.toList = bt434.1.toList then (letterlocklaw3_made.j1 kj5 a1 a2 (t433 != bt434.2)) else (letterlocklaw3_made.j1 kj5 a1 a2 true))) = some r := H
        have A16 := Aside0.mk A160
        clear A160
        replace H := Option.bind_eq_some_iff.mp H
        obtain ⟨⟨t434, t435⟩, A170, H⟩ := H
        replace H : (if t432.toList = t434.toList then (letterlocklaw3_made.j1 kj5 a1 a2 (t433 != t435)) else (letterlocklaw3_made.j1 kj5 a1 a2 true)) = some r := H
        have A17 := Aside0.mk A170
        clear A170
        have HC18 := Aside0.mk H
        clear H
        go_upto_region 7 with (first | ((with_reducible refine gate_callee (f := 12) rfl ?_); refine goesL_ (some 39) rfl rfl Try.func12 (by kernel_rfl) rfl #[.string a1, .string a2] rfl (by (try simp only [List.map_toArray, List.map_cons, List.map_nil]); first | done | rfl | (simp only [List.length_drop, List.length_take]; rfl)) ?_; (with_reducible refine (term_OfPair.calls a1 a2 t432 t433 _ A16.out).mono ?_); rintro e w19 ⟨rfl, hb⟩; refine ⟨_, rfl, ?_⟩; have n0_ := Aside0.mk (below_step (by repeat (first | (with_reducible first | exact HB.out | apply below_alloc | apply pw_below_drewN | apply below_drew1) | exact HB.out)) hb); clear HB; have HB := n0_; clear n0_; (try clear hb); (try clear hb2); (try clear hk); (try clear hi)) | ((with_reducible refine gate_callee (f := 53) rfl ?_); refine goesL_ (some 45) rfl rfl Try.func53 (by kernel_rfl) rfl #[.string a1, .string a2] rfl (by (try simp only [List.map_toArray, List.map_cons, List.map_nil]); first | done | rfl | (simp only [List.length_drop, List.length_take]; rfl)) ?_; (with_reducible refine (letterlockref3_OfPair.calls kj5 a1 a2 t434 t435 _ A17.out).mono ?_); rintro e w20 ⟨rfl, hb⟩; refine ⟨_, rfl, ?_⟩; have n0_ := Aside0.mk (below_step (by repeat (first | (with_reducible first | exact HB.out | apply below_alloc | apply pw_below_drewN | apply below_drew1) | exact HB.out)) hb); clear HB; have HB := n0_; clear n0_; (try clear hb); (try clear hb2); (try clear hk); (try clear hi)))
        (try simp only [Act.put, List.setIfInBounds_toArray, List.set_cons_zero, List.set_cons_succ])
        go_cut [55] (fun v55 wc => ∃ (kq : Nat) (x55_17 : Bool), v55 = .bool x55_17 ∧ Aside0 (letterlocklaw3_made.j1 kq a1 a2 x55_17 = some r) ∧ Aside0 (kq ≤ kj5) ∧ Aside0 (Below w.heap.size w wc))
        case first =>
          have H := HC18.out
          clear HC18
          by_cases c21 : t432.toList = t434.toList
          · rw [if_pos c21] at H
            have c21b0 : (t432.toList == t434.toList) = true := beq_iff_eq.mpr c21
            have c21b1 : (t432.toList != t434.toList) = false := bne_eq_false_iff_eq.mpr c21
            clear c21
            (first | rw [c21b0] | (simp only [i64_w, i32_w]; rw [c21b0]) | skip)
            have H' := Aside0.mk H
            clear H
            go_wp2
            go_meet
            case rel => exact ⟨_, ((t433 != t435)), (by first | rfl | (simp; done) | (simp [*]; done) | (simp; exact isEmpty_ne _)), H', ⟨by have := HJ5.out; first | omega | exact Nat.le_refl _⟩, ⟨by repeat (first | (with_reducible first | exact HB.out | apply below_alloc | apply pw_below_drewN | apply below_drew1) | exact HB.out)⟩⟩
          · rw [if_neg c21] at H
            have c21b0 : (t432.toList == t434.toList) = false := beq_eq_false_iff_ne.mpr c21
            have c21b1 : (t432.toList != t434.toList) = true := bne_iff_ne.mpr c21
            (first | rw [c21b0] | (simp only [i64_w, i32_w]; rw [c21b0]) | skip)
            have H' := Aside0.mk H
            clear H
            go_wp2
            go_meet
            case rel => exact ⟨_, (true), (by first | rfl | (simp; done) | (simp [*]; done) | (simp; exact isEmpty_ne _)), H', ⟨by have := HJ5.out; first | omega | exact Nat.le_refl _⟩, ⟨by repeat (first | (with_reducible first | exact HB.out | apply below_alloc | apply pw_below_drewN | apply below_drew1) | exact HB.out)⟩⟩
        case rest =>
          clear HC18
          try clear c1
          try clear c2
          try clear p2
          try clear c3
          try clear c5
          try clear c9
          try clear c9b0
          try clear c9b1
          try clear c10
          try clear c10b0
          try clear c10b1
          try clear c12
          try clear c15
          try clear c21
          try clear c21b0
          try clear c21b1
          try clear p2
          obtain ⟨kq, x55_17, rfl, HA, HJ17, HB⟩ := hcut
          cases kq with
          | zero => exact absurd HA.out (by simp [letterlocklaw3_made.j1])
          | succ kj17 =>
            have H := HA.out
            clear HA
            simp only [letterlocklaw3_made.j1] at H
            by_cases c22 : x55_17 = true
            · subst c22
              have H1 : (some false) = some r := by rw [if_pos rfl] at H; exact H
              clear H
              have H := H1
              clear H1
              obtain rfl := Option.some.inj H
              go_wp2
              go_ret
              exact ⟨by first | rfl | (simp [errW_none, errW_some] <;> rfl) | (simp [*, errW_none, errW_some] <;> rfl), by repeat (first | (with_reducible first | exact HB.out | apply below_alloc | apply pw_below_drewN | apply below_drew1) | exact HB.out)⟩
            · replace c22 := Bool.eq_false_iff.mpr c22
              subst c22
              have H1 : ((term_OfHash.f a1).bind fun bt436 => ((letterlockref3_OfHash.f kj17 a1).bind fun bt438 => (if bt436.1.toList = bt438.1.toList then (letterlocklaw3_made.j2 kj17 a1 a2 (bt436.2 != bt438.2)) else (letterlocklaw3_made.j2 kj17 a1 a2 true)))) = some r := by rw [if_neg (show ¬ (false = true) by decide)] at H; exact H
              clear H
              have H := H1
              clear H1
              replace H := Option.bind_eq_some_iff.mp H
              obtain ⟨⟨t436, t437⟩, A230, H⟩ := H
              replace H : ((letterlockref3_OfHash.f kj17 a1).bind fun bt438 => (if t436.toList = bt438.1.toList then (letterlocklaw3_made.j2 kj17 a1 a2 (t437 != bt438.2)) else (letterlocklaw3_made.j2 kj17 a1 a2 true))) = some r := H
              have A23 := Aside0.mk A230
              clear A230
              replace H := Option.bind_eq_some_iff.mp H
              obtain ⟨⟨t438, t439⟩, A240, H⟩ := H
              replace H : (if t436.toList = t438.toList then (letterlocklaw3_made.j2 kj17 a1 a2 (t437 != t439)) else (letterlocklaw3_made.j2 kj17 a1 a2 true)) = some r := H
              have A24 := Aside0.mk A240
              clear A240
              have HC25 := Aside0.mk H
              clear H
              go_upto_region 11 with (first | ((with_reducible refine gate_callee (f := 30) rfl ?_); refine goesL_ (some 58) rfl rfl Try.func30 (by kernel_rfl) rfl #[.string a1] rfl (by (try simp only [List.map_toArray, List.map_cons, List.map_nil]); first | done | rfl | (simp only [List.length_drop, List.length_take]; rfl)) ?_; (with_reducible refine (term_OfHash.calls a1 t436 t437 _ A23.out).mono ?_); rintro e w26 ⟨rfl, hb⟩; refine ⟨_, rfl, ?_⟩; have n0_ := Aside0.mk (below_step (by repeat (first | (with_reducible first | exact HB.out | apply below_alloc | apply pw_below_drewN | apply below_drew1) | exact HB.out)) hb); clear HB; have HB := n0_; clear n0_; (try clear hb); (try clear hb2); (try clear hk); (try clear hi)) | ((with_reducible refine gate_callee (f := 34) rfl ?_); refine goesL_ (some 63) rfl rfl Try.func34 (by kernel_rfl) rfl #[.string a1] rfl (by (try simp only [List.map_toArray, List.map_cons, List.map_nil]); first | done | rfl | (simp only [List.length_drop, List.length_take]; rfl)) ?_; (with_reducible refine (letterlockref3_OfHash.calls kj17 a1 t438 t439 _ A24.out).mono ?_); rintro e w27 ⟨rfl, hb⟩; refine ⟨_, rfl, ?_⟩; have n0_ := Aside0.mk (below_step (by repeat (first | (with_reducible first | exact HB.out | apply below_alloc | apply pw_below_drewN | apply below_drew1) | exact HB.out)) hb); clear HB; have HB := n0_; clear n0_; (try clear hb); (try clear hb2); (try clear hk); (try clear hi)))
              (try simp only [Act.put, List.setIfInBounds_toArray, List.set_cons_zero, List.set_cons_succ])
              go_cut [73] (fun v73 wc => ∃ (kq : Nat) (x73_24 : Bool), v73 = .bool x73_24 ∧ Aside0 (letterlocklaw3_made.j2 kq a1 a2 x73_24 = some r) ∧ Aside0 (kq ≤ kj17) ∧ Aside0 (Below w.heap.size w wc))
              case first =>
                have H := HC25.out
                clear HC25
                by_cases c28 : t436.toList = t438.toList
                · rw [if_pos c28] at H
                  have c28b0 : (t436.toList == t438.toList) = true := beq_iff_eq.mpr c28
                  have c28b1 : (t436.toList != t438.toList) = false := bne_eq_false_iff_eq.mpr c28
                  clear c28
                  (first | rw [c28b0] | (simp only [i64_w, i32_w]; rw [c28b0]) | skip)
                  have H' := Aside0.mk H
                  clear H
                  go_wp2
                  go_meet
                  case rel => exact ⟨_, ((t437 != t439)), (by first | rfl | (simp; done) | (simp [*]; done) | (simp; exact isEmpty_ne _)), H', ⟨by have := HJ5.out; have := HJ17.out; first | omega | exact Nat.le_refl _⟩, ⟨by repeat (first | (with_reducible first | exact HB.out | apply below_alloc | apply pw_below_drewN | apply below_drew1) | exact HB.out)⟩⟩
                · rw [if_neg c28] at H
                  have c28b0 : (t436.toList == t438.toList) = false := beq_eq_false_iff_ne.mpr c28
                  have c28b1 : (t436.toList != t438.toList) = true := bne_iff_ne.mpr c28
                  (first | rw [c28b0] | (simp only [i64_w, i32_w]; rw [c28b0]) | skip)
                  have H' := Aside0.mk H
                  clear H
                  go_wp2
                  go_meet
                  case rel => exact ⟨_, (true), (by first | rfl | (simp; done) | (simp [*]; done) | (simp; exact isEmpty_ne _)), H', ⟨by have := HJ5.out; have := HJ17.out; first | omega | exact Nat.le_refl _⟩, ⟨by repeat (first | (with_reducible first | exact HB.out | apply below_alloc | apply pw_below_drewN | apply below_drew1) | exact HB.out)⟩⟩
              case rest =>
                clear HC25
                try clear c1
                try clear c2
                try clear p2
                try clear c3
                try clear c5
                try clear c9
                try clear c9b0
                try clear c9b1
                try clear c10
                try clear c10b0
                try clear c10b1
                try clear c12
                try clear c15
                try clear c21
                try clear c21b0
                try clear c21b1
                try clear c22
                try clear c27
                try clear c28
                try clear c28b0
                try clear c28b1
                try clear p2
                obtain ⟨kq, x73_24, rfl, HA, HJ24, HB⟩ := hcut
                cases kq with
                | zero => exact absurd HA.out (by simp [letterlocklaw3_made.j2])
                | succ kj24 =>
                  have H := HA.out
                  clear HA
                  simp only [letterlocklaw3_made.j2] at H
                  by_cases c29 : x73_24 = true
                  · subst c29
                    have H1 : (some false) = some r := by rw [if_pos rfl] at H; exact H
                    clear H
                    have H := H1
                    clear H1
                    obtain rfl := Option.some.inj H
                    go_wp2
                    go_ret
                    exact ⟨by first | rfl | (simp [errW_none, errW_some] <;> rfl) | (simp [*, errW_none, errW_some] <;> rfl), by repeat (first | (with_reducible first | exact HB.out | apply below_alloc | apply pw_below_drewN | apply below_drew1) | exact HB.out)⟩
                  · replace c29 := Bool.eq_false_iff.mpr c29
                    subst c29
                    have H1 : ((term_Seal.f a1 a2).bind fun bt440 => ((letterlockref3_Seal.f kj24 a1 a2).bind fun bt442 => (if bt440.1.toList = bt442.1.toList then (letterlocklaw3_made.j3 kj24 a1 a2 (bt440.2 != bt442.2)) else (letterlocklaw3_made.j3 kj24 a1 a2 true)))) = some r := by rw [if_neg (show ¬ (false = true) by decide)] at H; exact H
                    clear H
                    have H := H1
                    clear H1
                    replace H := Option.bind_eq_some_iff.mp H
                    obtain ⟨⟨t440, t441⟩, A300, H⟩ := H
                    replace H : ((letterlockref3_Seal.f kj24 a1 a2).bind fun bt442 => (if t440.toList = bt442.1.toList then (letterlocklaw3_made.j3 kj24 a1 a2 (t441 != bt442.2)) else (letterlocklaw3_made.j3 kj24 a1 a2 true))) = some r := H
                    have A30 := Aside0.mk A300
                    clear A300
                    replace H := Option.bind_eq_some_iff.mp H
                    obtain ⟨⟨t442, t443⟩, A310, H⟩ := H
                    replace H : (if t440.toList = t442.toList then (letterlocklaw3_made.j3 kj24 a1 a2 (t441 != t443)) else (letterlocklaw3_made.j3 kj24 a1 a2 true)) = some r := H
                    have A31 := Aside0.mk A310
                    clear A310
                    have HC32 := Aside0.mk H
                    clear H
                    go_upto_region 15 with (first | ((with_reducible refine gate_callee (f := 13) rfl ?_); refine goesL_ (some 77) rfl rfl Try.func13 (by kernel_rfl) rfl #[.string a1, .string a2] rfl (by (try simp only [List.map_toArray, List.map_cons, List.map_nil]); first | done | rfl | (simp only [List.length_drop, List.length_take]; rfl)) ?_; (with_reducible refine (term_Seal.calls a1 a2 t440 t441 _ A30.out).mono ?_); rintro e w33 ⟨rfl, hb⟩; refine ⟨_, rfl, ?_⟩; have n0_ := Aside0.mk (below_step (by repeat (first | (with_reducible first | exact HB.out | apply below_alloc | apply pw_below_drewN | apply below_drew1) | exact HB.out)) hb); clear HB; have HB := n0_; clear n0_; (try clear hb); (try clear hb2); (try clear hk); (try clear hi)) | ((with_reducible refine gate_callee (f := 54) rfl ?_); refine goesL_ (some 83) rfl rfl Try.func54 (by kernel_rfl) rfl #[.string a1, .string a2] rfl (by (try simp only [List.map_toArray, List.map_cons, List.map_nil]); first | done | rfl | (simp only [List.length_drop, List.length_take]; rfl)) ?_; (with_reducible refine (letterlockref3_Seal.calls kj24 a1 a2 t442 t443 _ A31.out).mono ?_); rintro e w34 ⟨rfl, hb⟩; refine ⟨_, rfl, ?_⟩; have n0_ := Aside0.mk (below_step (by repeat (first | (with_reducible first | exact HB.out | apply below_alloc | apply pw_below_drewN | apply below_drew1) | exact HB.out)) hb); clear HB; have HB := n0_; clear n0_; (try clear hb); (try clear hb2); (try clear hk); (try clear hi)))
                    (try simp only [Act.put, List.setIfInBounds_toArray, List.set_cons_zero, List.set_cons_succ])
                    go_cut [93] (fun v93 wc => ∃ (kq : Nat) (x93_31 : Bool), v93 = .bool x93_31 ∧ Aside0 (letterlocklaw3_made.j3 kq a1 a2 x93_31 = some r) ∧ Aside0 (kq ≤ kj24) ∧ Aside0 (Below w.heap.size w wc))
                    case first =>
                      have H := HC32.out
                      clear HC32
                      by_cases c35 : t440.toList = t442.toList
                      · rw [if_pos c35] at H
                        have c35b0 : (t440.toList == t442.toList) = true := beq_iff_eq.mpr c35
                        have c35b1 : (t440.toList != t442.toList) = false := bne_eq_false_iff_eq.mpr c35
                        clear c35
                        (first | rw [c35b0] | (simp only [i64_w, i32_w]; rw [c35b0]) | skip)
                        have H' := Aside0.mk H
                        clear H
                        go_wp2
                        go_meet
                        case rel => exact ⟨_, ((t441 != t443)), (by first | rfl | (simp; done) | (simp [*]; done) | (simp; exact isEmpty_ne _)), H', ⟨by have := HJ5.out; have := HJ17.out; have := HJ24.out; first | omega | exact Nat.le_refl _⟩, ⟨by repeat (first | (with_reducible first | exact HB.out | apply below_alloc | apply pw_below_drewN | apply below_drew1) | exact HB.out)⟩⟩
                      · rw [if_neg c35] at H
                        have c35b0 : (t440.toList == t442.toList) = false := beq_eq_false_iff_ne.mpr c35
                        have c35b1 : (t440.toList != t442.toList) = true := bne_iff_ne.mpr c35
                        (first | rw [c35b0] | (simp only [i64_w, i32_w]; rw [c35b0]) | skip)
                        have H' := Aside0.mk H
                        clear H
                        go_wp2
                        go_meet
                        case rel => exact ⟨_, (true), (by first | rfl | (simp; done) | (simp [*]; done) | (simp; exact isEmpty_ne _)), H', ⟨by have := HJ5.out; have := HJ17.out; have := HJ24.out; first | omega | exact Nat.le_refl _⟩, ⟨by repeat (first | (with_reducible first | exact HB.out | apply below_alloc | apply pw_below_drewN | apply below_drew1) | exact HB.out)⟩⟩
                    case rest =>
                      clear HC32
                      try clear c1
                      try clear c2
                      try clear p2
                      try clear c3
                      try clear c5
                      try clear c9
                      try clear c9b0
                      try clear c9b1
                      try clear c10
                      try clear c10b0
                      try clear c10b1
                      try clear c12
                      try clear c13
                      try clear c15
                      try clear c21
                      try clear c21b0
                      try clear c21b1
                      try clear c22
                      try clear c27
                      try clear c28
                      try clear c28b0
                      try clear c28b1
                      try clear c29
                      try clear c30
                      try clear c31
                      try clear c33
                      try clear c34
                      try clear c35
                      try clear c35b0
                      try clear c35b1
                      try clear p2
                      obtain ⟨kq, x93_31, rfl, HA, HJ31, HB⟩ := hcut
                      cases kq with
                      | zero => exact absurd HA.out (by simp [letterlocklaw3_made.j3])
                      | succ kj31 =>
                        have H := HA.out
                        clear HA
                        simp only [letterlocklaw3_made.j3] at H
                        by_cases c36 : x93_31 = true
                        · subst c36
                          have H1 : (some false) = some r := by rw [if_pos rfl] at H; exact H
                          clear H
                          have H := H1
                          clear H1
                          obtain rfl := Option.some.inj H
                          go_wp2
                          go_ret
                          exact ⟨by first | rfl | (simp [errW_none, errW_some] <;> rfl) | (simp [*, errW_none, errW_some] <;> rfl), by repeat (first | (with_reducible first | exact HB.out | apply below_alloc | apply pw_below_drewN | apply below_drew1) | exact HB.out)⟩
                        · replace c36 := Bool.eq_false_iff.mpr c36
                          subst c36
                          have H1 : ((term_OfPublic.f a1).bind fun bt444 => ((letterlockref3_OfPublic.f kj31 a1).bind fun bt446 => (if bt444.1.toList = bt446.1.toList then (letterlocklaw3_made.j4 kj31 a1 a2 (bt444.2 != bt446.2)) else (letterlocklaw3_made.j4 kj31 a1 a2 true)))) = some r := by rw [if_neg (show ¬ (false = true) by decide)] at H; exact H
                          clear H
                          have H := H1
                          clear H1
                          replace H := Option.bind_eq_some_iff.mp H
                          obtain ⟨⟨t444, t445⟩, A370, H⟩ := H
                          replace H : ((letterlockref3_OfPublic.f kj31 a1).bind fun bt446 => (if t444.toList = bt446.1.toList then (letterlocklaw3_made.j4 kj31 a1 a2 (t445 != bt446.2)) else (letterlocklaw3_made.j4 kj31 a1 a2 true))) = some r := H
                          have A37 := Aside0.mk A370
                          clear A370
                          replace H := Option.bind_eq_some_iff.mp H
                          obtain ⟨⟨t446, t447⟩, A380, H⟩ := H
                          replace H : (if t444.toList = t446.toList then (letterlocklaw3_made.j4 kj31 a1 a2 (t445 != t447)) else (letterlocklaw3_made.j4 kj31 a1 a2 true)) = some r := H
                          have A38 := Aside0.mk A380
                          clear A380
                          have HC39 := Aside0.mk H
                          clear H
                          go_upto_region 19 with (first | ((with_reducible refine gate_callee (f := 16) rfl ?_); refine goesL_ (some 96) rfl rfl Try.func16 (by kernel_rfl) rfl #[.string a1] rfl (by (try simp only [List.map_toArray, List.map_cons, List.map_nil]); first | done | rfl | (simp only [List.length_drop, List.length_take]; rfl)) ?_; (with_reducible refine (term_OfPublic.calls a1 t444 t445 _ A37.out).mono ?_); rintro e w40 ⟨rfl, hb⟩; refine ⟨_, rfl, ?_⟩; have n0_ := Aside0.mk (below_step (by repeat (first | (with_reducible first | exact HB.out | apply below_alloc | apply pw_below_drewN | apply below_drew1) | exact HB.out)) hb); clear HB; have HB := n0_; clear n0_; (try clear hb); (try clear hb2); (try clear hk); (try clear hi)) | ((with_reducible refine gate_callee (f := 35) rfl ?_); refine goesL_ (some 101) rfl rfl Try.func35 (by kernel_rfl) rfl #[.string a1] rfl (by (try simp only [List.map_toArray, List.map_cons, List.map_nil]); first | done | rfl | (simp only [List.length_drop, List.length_take]; rfl)) ?_; (with_reducible refine (letterlockref3_OfPublic.calls kj31 a1 t446 t447 _ A38.out).mono ?_); rintro e w41 ⟨rfl, hb⟩; refine ⟨_, rfl, ?_⟩; have n0_ := Aside0.mk (below_step (by repeat (first | (with_reducible first | exact HB.out | apply below_alloc | apply pw_below_drewN | apply below_drew1) | exact HB.out)) hb); clear HB; have HB := n0_; clear n0_; (try clear hb); (try clear hb2); (try clear hk); (try clear hi)))
                          (try simp only [Act.put, List.setIfInBounds_toArray, List.set_cons_zero, List.set_cons_succ])
                          go_cut [111] (fun v111 wc => ∃ (kq : Nat) (x111_38 : Bool), v111 = .bool x111_38 ∧ Aside0 (letterlocklaw3_made.j4 kq a1 a2 x111_38 = some r) ∧ Aside0 (kq ≤ kj31) ∧ Aside0 (Below w.heap.size w wc))
                          case first =>
                            have H := HC39.out
                            clear HC39
                            by_cases c42 : t444.toList = t446.toList
                            · rw [if_pos c42] at H
                              have c42b0 : (t444.toList == t446.toList) = true := beq_iff_eq.mpr c42
                              have c42b1 : (t444.toList != t446.toList) = false := bne_eq_false_iff_eq.mpr c42
                              clear c42
                              (first | rw [c42b0] | (simp only [i64_w, i32_w]; rw [c42b0]) | skip)
                              have H' := Aside0.mk H
                              clear H
                              go_wp2
                              go_meet
                              case rel => exact ⟨_, ((t445 != t447)), (by first | rfl | (simp; done) | (simp [*]; done) | (simp; exact isEmpty_ne _)), H', ⟨by have := HJ5.out; have := HJ17.out; have := HJ24.out; have := HJ31.out; first | omega | exact Nat.le_refl _⟩, ⟨by repeat (first | (with_reducible first | exact HB.out | apply below_alloc | apply pw_below_drewN | apply below_drew1) | exact HB.out)⟩⟩
                            · rw [if_neg c42] at H
                              have c42b0 : (t444.toList == t446.toList) = false := beq_eq_false_iff_ne.mpr c42
                              have c42b1 : (t444.toList != t446.toList) = true := bne_iff_ne.mpr c42
                              (first | rw [c42b0] | (simp only [i64_w, i32_w]; rw [c42b0]) | skip)
                              have H' := Aside0.mk H
                              clear H
                              go_wp2
                              go_meet
                              case rel => exact ⟨_, (true), (by first | rfl | (simp; done) | (simp [*]; done) | (simp; exact isEmpty_ne _)), H', ⟨by have := HJ5.out; have := HJ17.out; have := HJ24.out; have := HJ31.out; first | omega | exact Nat.le_refl _⟩, ⟨by repeat (first | (with_reducible first | exact HB.out | apply below_alloc | apply pw_below_drewN | apply below_drew1) | exact HB.out)⟩⟩
                          case rest =>
                            clear HC39
                            try clear c1
                            try clear c2
                            try clear p2
                            try clear c3
                            try clear c4
                            try clear c5
                            try clear c9
                            try clear c9b0
                            try clear c9b1
                            try clear c10
                            try clear c10b0
                            try clear c10b1
                            try clear c12
                            try clear c13
                            try clear c15
                            try clear c16
                            try clear c21
                            try clear c21b0
                            try clear c21b1
                            try clear c22
                            try clear c27
                            try clear c28
                            try clear c28b0
                            try clear c28b1
                            try clear c29
                            try clear c30
                            try clear c31
                            try clear c33
                            try clear c34
                            try clear c35
                            try clear c35b0
                            try clear c35b1
                            try clear c36
                            try clear c42
                            try clear c42b0
                            try clear c42b1
                            try clear p2
                            obtain ⟨kq, x111_38, rfl, HA, HJ38, HB⟩ := hcut
                            cases kq with
                            | zero => exact absurd HA.out (by simp [letterlocklaw3_made.j4])
                            | succ kj38 =>
                              have H := HA.out
                              clear HA
                              simp only [letterlocklaw3_made.j4] at H
                              by_cases c43 : x111_38 = true
                              · subst c43
                                have H1 : (some false) = some r := by rw [if_pos rfl] at H; exact H
                                clear H
                                have H := H1
                                clear H1
                                obtain rfl := Option.some.inj H
                                go_wp2
                                go_ret
                                exact ⟨by first | rfl | (simp [errW_none, errW_some] <;> rfl) | (simp [*, errW_none, errW_some] <;> rfl), by repeat (first | (with_reducible first | exact HB.out | apply below_alloc | apply pw_below_drewN | apply below_drew1) | exact HB.out)⟩
                              · replace c43 := Bool.eq_false_iff.mpr c43
                                subst c43
                                have H1 : ((term_Box.f a1 a2).bind fun bt448 => ((letterlockref3_Box.f kj38 a1 a2).bind fun bt450 => (if bt448.1.toList = bt450.1.toList then (letterlocklaw3_made.j5 kj38 a1 a2 (bt448.2 != bt450.2)) else (letterlocklaw3_made.j5 kj38 a1 a2 true)))) = some r := by rw [if_neg (show ¬ (false = true) by decide)] at H; exact H
                                clear H
                                have H := H1
                                clear H1
                                replace H := Option.bind_eq_some_iff.mp H
                                obtain ⟨⟨t448, t449⟩, A440, H⟩ := H
                                replace H : ((letterlockref3_Box.f kj38 a1 a2).bind fun bt450 => (if t448.toList = bt450.1.toList then (letterlocklaw3_made.j5 kj38 a1 a2 (t449 != bt450.2)) else (letterlocklaw3_made.j5 kj38 a1 a2 true))) = some r := H
                                have A44 := Aside0.mk A440
                                clear A440
                                replace H := Option.bind_eq_some_iff.mp H
                                obtain ⟨⟨t450, t451⟩, A450, H⟩ := H
                                replace H : (if t448.toList = t450.toList then (letterlocklaw3_made.j5 kj38 a1 a2 (t449 != t451)) else (letterlocklaw3_made.j5 kj38 a1 a2 true)) = some r := H
                                have A45 := Aside0.mk A450
                                clear A450
                                have HC46 := Aside0.mk H
                                clear H
                                go_upto_region 23 with (first | ((with_reducible refine gate_callee (f := 18) rfl ?_); refine goesL_ (some 115) rfl rfl Try.func18 (by kernel_rfl) rfl #[.string a1, .string a2] rfl (by (try simp only [List.map_toArray, List.map_cons, List.map_nil]); first | done | rfl | (simp only [List.length_drop, List.length_take]; rfl)) ?_; (with_reducible refine (term_Box.calls a1 a2 t448 t449 _ A44.out).mono ?_); rintro e w47 ⟨rfl, hb⟩; refine ⟨_, rfl, ?_⟩; have n0_ := Aside0.mk (below_step (by repeat (first | (with_reducible first | exact HB.out | apply below_alloc | apply pw_below_drewN | apply below_drew1) | exact HB.out)) hb); clear HB; have HB := n0_; clear n0_; (try clear hb); (try clear hb2); (try clear hk); (try clear hi)) | ((with_reducible refine gate_callee (f := 55) rfl ?_); refine goesL_ (some 121) rfl rfl Try.func55 (by kernel_rfl) rfl #[.string a1, .string a2] rfl (by (try simp only [List.map_toArray, List.map_cons, List.map_nil]); first | done | rfl | (simp only [List.length_drop, List.length_take]; rfl)) ?_; (with_reducible refine (letterlockref3_Box.calls kj38 a1 a2 t450 t451 _ A45.out).mono ?_); rintro e w48 ⟨rfl, hb⟩; refine ⟨_, rfl, ?_⟩; have n0_ := Aside0.mk (below_step (by repeat (first | (with_reducible first | exact HB.out | apply below_alloc | apply pw_below_drewN | apply below_drew1) | exact HB.out)) hb); clear HB; have HB := n0_; clear n0_; (try clear hb); (try clear hb2); (try clear hk); (try clear hi)))
                                (try simp only [Act.put, List.setIfInBounds_toArray, List.set_cons_zero, List.set_cons_succ])
                                go_cut [131] (fun v131 wc => ∃ (kq : Nat) (x131_45 : Bool), v131 = .bool x131_45 ∧ Aside0 (letterlocklaw3_made.j5 kq a1 a2 x131_45 = some r) ∧ Aside0 (kq ≤ kj38) ∧ Aside0 (Below w.heap.size w wc))
                                case first =>
                                  have H := HC46.out
                                  clear HC46
                                  by_cases c49 : t448.toList = t450.toList
                                  · rw [if_pos c49] at H
                                    have c49b0 : (t448.toList == t450.toList) = true := beq_iff_eq.mpr c49
                                    have c49b1 : (t448.toList != t450.toList) = false := bne_eq_false_iff_eq.mpr c49
                                    clear c49
                                    (first | rw [c49b0] | (simp only [i64_w, i32_w]; rw [c49b0]) | skip)
                                    have H' := Aside0.mk H
                                    clear H
                                    go_wp2
                                    go_meet
                                    case rel => exact ⟨_, ((t449 != t451)), (by first | rfl | (simp; done) | (simp [*]; done) | (simp; exact isEmpty_ne _)), H', ⟨by have := HJ5.out; have := HJ17.out; have := HJ24.out; have := HJ31.out; have := HJ38.out; first | omega | exact Nat.le_refl _⟩, ⟨by repeat (first | (with_reducible first | exact HB.out | apply below_alloc | apply pw_below_drewN | apply below_drew1) | exact HB.out)⟩⟩
                                  · rw [if_neg c49] at H
                                    have c49b0 : (t448.toList == t450.toList) = false := beq_eq_false_iff_ne.mpr c49
                                    have c49b1 : (t448.toList != t450.toList) = true := bne_iff_ne.mpr c49
                                    (first | rw [c49b0] | (simp only [i64_w, i32_w]; rw [c49b0]) | skip)
                                    have H' := Aside0.mk H
                                    clear H
                                    go_wp2
                                    go_meet
                                    case rel => exact ⟨_, (true), (by first | rfl | (simp; done) | (simp [*]; done) | (simp; exact isEmpty_ne _)), H', ⟨by have := HJ5.out; have := HJ17.out; have := HJ24.out; have := HJ31.out; have := HJ38.out; first | omega | exact Nat.le_refl _⟩, ⟨by repeat (first | (with_reducible first | exact HB.out | apply below_alloc | apply pw_below_drewN | apply below_drew1) | exact HB.out)⟩⟩
                                case rest =>
                                  clear HC46
                                  try clear c1
                                  try clear c2
                                  try clear p2
                                  try clear c3
                                  try clear c4
                                  try clear c5
                                  try clear c9
                                  try clear c9b0
                                  try clear c9b1
                                  try clear c10
                                  try clear c10b0
                                  try clear c10b1
                                  try clear c12
                                  try clear c13
                                  try clear c15
                                  try clear c16
                                  try clear c18
                                  try clear c21
                                  try clear c21b0
                                  try clear c21b1
                                  try clear c22
                                  try clear c27
                                  try clear c28
                                  try clear c28b0
                                  try clear c28b1
                                  try clear c29
                                  try clear c30
                                  try clear c31
                                  try clear c33
                                  try clear c34
                                  try clear c35
                                  try clear c35b0
                                  try clear c35b1
                                  try clear c36
                                  try clear c42
                                  try clear c42b0
                                  try clear c42b1
                                  try clear c43
                                  try clear c49
                                  try clear c49b0
                                  try clear c49b1
                                  try clear p2
                                  obtain ⟨kq, x131_45, rfl, HA, HJ45, HB⟩ := hcut
                                  cases kq with
                                  | zero => exact absurd HA.out (by simp [letterlocklaw3_made.j5])
                                  | succ kj45 =>
                                    have H := HA.out
                                    clear HA
                                    simp only [letterlocklaw3_made.j5] at H
                                    by_cases c50 : x131_45 = true
                                    · subst c50
                                      have H1 : (some false) = some r := by rw [if_pos rfl] at H; exact H
                                      clear H
                                      have H := H1
                                      clear H1
                                      obtain rfl := Option.some.inj H
                                      go_wp2
                                      go_ret
                                      exact ⟨by first | rfl | (simp [errW_none, errW_some] <;> rfl) | (simp [*, errW_none, errW_some] <;> rfl), by repeat (first | (with_reducible first | exact HB.out | apply below_alloc | apply pw_below_drewN | apply below_drew1) | exact HB.out)⟩
                                    · replace c50 := Bool.eq_false_iff.mpr c50
                                      subst c50
                                      have H1 : ((term_Sign.f a1 a2).bind fun bt452 => ((letterlockref3_Sign.f kj45 a1 a2).bind fun bt454 => (if bt452.1.toList = bt454.1.toList then (some (bt452.2 == bt454.2)) else (some false)))) = some r := by rw [if_neg (show ¬ (false = true) by decide)] at H; exact H
                                      clear H
                                      have H := H1
                                      clear H1
                                      replace H := Option.bind_eq_some_iff.mp H
                                      obtain ⟨⟨t452, t453⟩, A510, H⟩ := H
                                      replace H : ((letterlockref3_Sign.f kj45 a1 a2).bind fun bt454 => (if t452.toList = bt454.1.toList then (some (t453 == bt454.2)) else (some false))) = some r := H
                                      have A51 := Aside0.mk A510
                                      clear A510
                                      replace H := Option.bind_eq_some_iff.mp H
                                      obtain ⟨⟨t454, t455⟩, A520, H⟩ := H
                                      replace H : (if t452.toList = t454.toList then (some (t453 == t455)) else (some false)) = some r := H
                                      have A52 := Aside0.mk A520
                                      clear A520
                                      by_cases c53 : t452.toList = t454.toList
                                      · rw [if_pos c53] at H
                                        have c53b0 : (t452.toList == t454.toList) = true := beq_iff_eq.mpr c53
                                        have c53b1 : (t452.toList != t454.toList) = false := bne_eq_false_iff_eq.mpr c53
                                        clear c53
                                        obtain rfl := Option.some.inj H
                                        go_wp2_with (first | ((with_reducible refine gate_callee (f := 14) rfl ?_); refine goesL_ (some 135) rfl rfl Try.func14 (by kernel_rfl) rfl #[.string a1, .string a2] rfl (by (try simp only [List.map_toArray, List.map_cons, List.map_nil]); first | done | rfl | (simp only [List.length_drop, List.length_take]; rfl)) ?_; (with_reducible refine (term_Sign.calls a1 a2 t452 t453 _ A51.out).mono ?_); rintro e w54 ⟨rfl, hb⟩; refine ⟨_, rfl, ?_⟩; have n0_ := Aside0.mk (below_step (by repeat (first | (with_reducible first | exact HB.out | apply below_alloc | apply pw_below_drewN | apply below_drew1) | exact HB.out)) hb); clear HB; have HB := n0_; clear n0_; (try clear hb); (try clear hb2); (try clear hk); (try clear hi)) | ((with_reducible refine gate_callee (f := 56) rfl ?_); refine goesL_ (some 141) rfl rfl Try.func56 (by kernel_rfl) rfl #[.string a1, .string a2] rfl (by (try simp only [List.map_toArray, List.map_cons, List.map_nil]); first | done | rfl | (simp only [List.length_drop, List.length_take]; rfl)) ?_; (with_reducible refine (letterlockref3_Sign.calls kj45 a1 a2 t454 t455 _ A52.out).mono ?_); rintro e w55 ⟨rfl, hb⟩; refine ⟨_, rfl, ?_⟩; have n0_ := Aside0.mk (below_step (by repeat (first | (with_reducible first | exact HB.out | apply below_alloc | apply pw_below_drewN | apply below_drew1) | exact HB.out)) hb); clear HB; have HB := n0_; clear n0_; (try clear hb); (try clear hb2); (try clear hk); (try clear hi)))
                                        go_ret
                                        exact ⟨by first | rfl | (simp [errW_none, errW_some] <;> rfl) | (simp [*, errW_none, errW_some] <;> rfl), by repeat (first | (with_reducible first | exact HB.out | apply below_alloc | apply pw_below_drewN | apply below_drew1) | exact HB.out)⟩
                                      · rw [if_neg c53] at H
                                        have c53b0 : (t452.toList == t454.toList) = false := beq_eq_false_iff_ne.mpr c53
                                        have c53b1 : (t452.toList != t454.toList) = true := bne_iff_ne.mpr c53
                                        obtain rfl := Option.some.inj H
                                        go_wp2_with (first | ((with_reducible refine gate_callee (f := 14) rfl ?_); refine goesL_ (some 135) rfl rfl Try.func14 (by kernel_rfl) rfl #[.string a1, .string a2] rfl (by (try simp only [List.map_toArray, List.map_cons, List.map_nil]); first | done | rfl | (simp only [List.length_drop, List.length_take]; rfl)) ?_; (with_reducible refine (term_Sign.calls a1 a2 t452 t453 _ A51.out).mono ?_); rintro e w56 ⟨rfl, hb⟩; refine ⟨_, rfl, ?_⟩; have n0_ := Aside0.mk (below_step (by repeat (first | (with_reducible first | exact HB.out | apply below_alloc | apply pw_below_drewN | apply below_drew1) | exact HB.out)) hb); clear HB; have HB := n0_; clear n0_; (try clear hb); (try clear hb2); (try clear hk); (try clear hi)) | ((with_reducible refine gate_callee (f := 56) rfl ?_); refine goesL_ (some 141) rfl rfl Try.func56 (by kernel_rfl) rfl #[.string a1, .string a2] rfl (by (try simp only [List.map_toArray, List.map_cons, List.map_nil]); first | done | rfl | (simp only [List.length_drop, List.length_take]; rfl)) ?_; (with_reducible refine (letterlockref3_Sign.calls kj45 a1 a2 t454 t455 _ A52.out).mono ?_); rintro e w57 ⟨rfl, hb⟩; refine ⟨_, rfl, ?_⟩; have n0_ := Aside0.mk (below_step (by repeat (first | (with_reducible first | exact HB.out | apply below_alloc | apply pw_below_drewN | apply below_drew1) | exact HB.out)) hb); clear HB; have HB := n0_; clear n0_; (try clear hb); (try clear hb2); (try clear hk); (try clear hi)))
                                        go_ret
                                        exact ⟨by first | rfl | (simp [errW_none, errW_some] <;> rfl) | (simp [*, errW_none, errW_some] <;> rfl), by repeat (first | (with_reducible first | exact HB.out | apply below_alloc | apply pw_below_drewN | apply below_drew1) | exact HB.out)⟩

end Go.Proofs.Ytfkkmagiobfeiaa.P
