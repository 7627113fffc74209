/- Printed for this claim by wip/myprint.py out of the translation: Lean functions with the answers of the Go functions, and proofs that the Go code comes to them. Lean checks it. -/
import Derived.Test.YtfkkmagiobfeiaaG0
import Derived.Test.YtfkkmagiobfeiaaGRef3
import Derived.Test.YtfkkmagiobfeiaaGTerm
import Derived.Test.YtfkkmagiobfeiaaXTerm
namespace Go.Proofs.Ytfkkmagiobfeiaa.P
open Go.RowKit Go.Proofs.YtfkkmagiobfeiaaW.PrintWords Go.Proofs.YtfkkmagiobfeiaaW.PrintLast Go.Proofs.YtfkkmagiobfeiaaW.PrintMore
attribute [local go_sem] max2_int min2_int max_two min_two max_three min_three max_four min_four   -- for this text's walks alone
set_option linter.unusedVariables false
set_option linter.unusedSimpArgs false

/-! ### letterlocklaw3_shown: function 10 -/
def letterlocklaw3_shown.f (k : Nat)  : Option (Bool) := (term_OfAtom.f k 5).bind fun t114 => (if t114.toList = ([97, 1, 5] : List UInt8) then ((term_Kind.f (⟨#[97, 1, 5]⟩ : ByteArray)).bind fun t115 => (some (t115 == 97))) else (some false))
theorem letterlocklaw3_shown.mono : ∀ k, LeO (letterlocklaw3_shown.f k ) (letterlocklaw3_shown.f (k + 1) ) := by
  intro  k
  unfold letterlocklaw3_shown.f
  repeat' first
      | (with_reducible exact term_OfAtom.mono _ _)
      | (with_reducible exact LeO.refl _)
      | (with_reducible exact LeO.none _)
      | (with_reducible refine LeO.ite ?_ ?_)
      | (with_reducible refine LeO.bind ?_ (fun _ => ?_))
      | exact term_OfAtom.mono _ _
      | exact LeO.none _
      | refine LeO.ite ?_ ?_
      | refine LeO.bind ?_ (fun _ => ?_)
set_option maxHeartbeats 8000000 in
set_option maxRecDepth 100000 in
theorem letterlocklaw3_shown.calls (k : Nat)  (r : Bool) (w : World) (h : letterlocklaw3_shown.f k  = some r) :
    Calls Try.prog 10 #[] w fun e w' => e = .returned (.bool r) ∧ Below w.heap.size w w' := by
  have HB := Aside0.mk (Below.refl w.heap.size w)
  have H : ((term_OfAtom.f k 5).bind fun t114 => (if t114.toList = ([97, 1, 5] : List UInt8) then ((term_Kind.f (⟨#[97, 1, 5]⟩ : ByteArray)).bind fun t115 => (some (t115 == 97))) else (some false))) = some r := h
  clear h
  replace H := Option.bind_eq_some_iff.mp H
  obtain ⟨t114, A10, H⟩ := H
  replace H : (if t114.toList = ([97, 1, 5] : List UInt8) then ((term_Kind.f (⟨#[97, 1, 5]⟩ : ByteArray)).bind fun t115 => (some (t115 == 97))) else (some false)) = some r := H
  have A1 := Aside0.mk A10
  clear A10
  by_cases c2 : t114.toList = ([97, 1, 5] : List UInt8)
  · rw [if_pos c2] at H
    have c2b0 : (t114.toList == ([97, 1, 5] : List UInt8)) = true := beq_iff_eq.mpr c2
    have c2b1 : (t114.toList != ([97, 1, 5] : List UInt8)) = false := bne_eq_false_iff_eq.mpr c2
    clear c2
    replace H := Option.bind_eq_some_iff.mp H
    obtain ⟨t115, A30, H⟩ := H
    replace H : (some (t115 == 97)) = some r := H
    have A3 := Aside0.mk A30
    clear A30
    obtain rfl := Option.some.inj H
    go_enter Try.func10, Try.ntmps10
    go_wp2_with (first | ((with_reducible refine gate_callee (f := 29) rfl ?_); refine goesL_ (some 1) rfl rfl Try.func29 (by kernel_rfl) rfl #[.int .u64 5] rfl (by (try simp only [List.map_toArray, List.map_cons, List.map_nil]); first | done | rfl | (simp only [List.length_drop, List.length_take]; rfl)) ?_; (with_reducible refine (term_OfAtom.calls k 5 t114 _ A1.out).mono ?_); rintro e w4 ⟨rfl, hb⟩; refine ⟨_, rfl, ?_⟩; have n0_ := Aside0.mk (below_step (by repeat (first | (with_reducible first | exact HB.out | apply below_alloc | apply pw_below_drewN | apply below_drew1) | exact HB.out)) hb); clear HB; have HB := n0_; clear n0_; (try clear hb); (try clear hb2); (try clear hk); (try clear hi)) | (go_at_call 15; (with_reducible refine (term_Kind.calls (⟨#[97, 1, 5]⟩ : ByteArray) t115 _ A3.out).mono ?_); rintro e w5 ⟨rfl, hb⟩; have n0_ := Aside0.mk (below_step (by repeat (first | (with_reducible first | exact HB.out | apply below_alloc | apply pw_below_drewN | apply below_drew1) | exact HB.out)) hb); clear HB; have HB := n0_; clear n0_; (try clear hb); (try clear hb2); (try clear hk); (try clear hi)))
    go_ret
    exact ⟨by first | rfl | (simp [errW_none, errW_some] <;> rfl) | (simp [*, errW_none, errW_some] <;> rfl), by repeat (first | (with_reducible first | exact HB.out | apply below_alloc | apply pw_below_drewN | apply below_drew1) | exact HB.out)⟩
  · rw [if_neg c2] at H
    have c2b0 : (t114.toList == ([97, 1, 5] : List UInt8)) = false := beq_eq_false_iff_ne.mpr c2
    have c2b1 : (t114.toList != ([97, 1, 5] : List UInt8)) = true := bne_iff_ne.mpr c2
    obtain rfl := Option.some.inj H
    go_enter Try.func10, Try.ntmps10
    go_wp2_with (first | ((with_reducible refine gate_callee (f := 29) rfl ?_); refine goesL_ (some 1) rfl rfl Try.func29 (by kernel_rfl) rfl #[.int .u64 5] rfl (by (try simp only [List.map_toArray, List.map_cons, List.map_nil]); first | done | rfl | (simp only [List.length_drop, List.length_take]; rfl)) ?_; (with_reducible refine (term_OfAtom.calls k 5 t114 _ A1.out).mono ?_); rintro e w6 ⟨rfl, hb⟩; refine ⟨_, rfl, ?_⟩; have n0_ := Aside0.mk (below_step (by repeat (first | (with_reducible first | exact HB.out | apply below_alloc | apply pw_below_drewN | apply below_drew1) | exact HB.out)) hb); clear HB; have HB := n0_; clear n0_; (try clear hb); (try clear hb2); (try clear hk); (try clear hi)))
    go_ret
    exact ⟨by first | rfl | (simp [errW_none, errW_some] <;> rfl) | (simp [*, errW_none, errW_some] <;> rfl), by repeat (first | (with_reducible first | exact HB.out | apply below_alloc | apply pw_below_drewN | apply below_drew1) | exact HB.out)⟩

/-! ### letterlocklaw3_pick: function 26 -/
def letterlocklaw3_pick.f (a0 : Int) (a1 : Int) : Option (Int) := if a0 < 0 then (if a1 = 0 then (none) else (some (Int.tmod (wrap64 (-(wrap64 (a0 + 1)))) a1))) else (if a1 = 0 then (none) else (some (Int.tmod a0 a1)))
set_option maxHeartbeats 8000000 in
set_option maxRecDepth 100000 in
theorem letterlocklaw3_pick.calls (a0 : Int) (a1 : Int) (r : Int) (w : World) (h : letterlocklaw3_pick.f a0 a1 = some r) :
    Calls Try.prog 26 #[.int .i64 a0, .int .i64 a1] w fun e w' => e = .returned (.int .i64 r) ∧ Drawn0 w w' := by
  have H : (if a0 < 0 then (if a1 = 0 then (none) else (some (Int.tmod (wrap64 (-(wrap64 (a0 + 1)))) a1))) else (if a1 = 0 then (none) else (some (Int.tmod a0 a1)))) = some r := h
  clear h
  by_cases c3 : a0 < 0
  · rw [if_pos c3] at H
    have c3b0 : decide (a0 < 0) = true := decide_eq_true c3
    clear c3
    by_cases c4 : a1 = 0
    · rw [if_pos c4] at H
      exact absurd H (by simp)
    · rw [if_neg c4] at H
      have c4b0 : (a1 == 0) = false := beq_eq_false_iff_ne.mpr c4
      have c4b1 : (a1 != 0) = true := bne_iff_ne.mpr c4
      obtain rfl := Option.some.inj H
      go_enter Try.func26, Try.ntmps26
      go_wp2
      go_ret
      exact ⟨by first | rfl | (simp; done) | (simp [*]; done), by repeat (first | exact Drawn0.refl _ | apply Drawn0.step)⟩
  · rw [if_neg c3] at H
    have c3b0 : decide (a0 < 0) = false := decide_eq_false c3
    clear c3
    by_cases c5 : a1 = 0
    · rw [if_pos c5] at H
      exact absurd H (by simp)
    · rw [if_neg c5] at H
      have c5b0 : (a1 == 0) = false := beq_eq_false_iff_ne.mpr c5
      have c5b1 : (a1 != 0) = true := bne_iff_ne.mpr c5
      obtain rfl := Option.some.inj H
      go_enter Try.func26, Try.ntmps26
      go_wp2
      go_ret
      exact ⟨by first | rfl | (simp; done) | (simp [*]; done), by repeat (first | exact Drawn0.refl _ | apply Drawn0.step)⟩

/-! ### letterlocklaw3_joined: function 36 -/
def letterlocklaw3_joined.f (k : Nat) (a0 : Int) (a1 : ByteArray) (a2 : ByteArray) : Option (ByteArray) := (letterlocklaw3_pick.f a0 4).bind fun t164 => (if t164 = 0 then ((letterlockref3_OfPair.f k a1 a2).bind fun bt165 => (if bt165.2 = 0 then (some bt165.1) else (some a1))) else (if t164 = 1 then ((letterlockref3_Seal.f k a1 a2).bind fun bt167 => (if bt167.2 = 0 then (some bt167.1) else (some a1))) else (if t164 = 2 then ((letterlockref3_OfPublic.f k a1).bind fun bt169 => ((letterlockref3_Box.f k bt169.1 a2).bind fun bt171 => (if bt171.2 = 0 then (some bt171.1) else (some a1)))) else ((letterlockref3_Sign.f k a1 a2).bind fun bt173 => (if bt173.2 = 0 then (some bt173.1) else (some a1))))))
theorem letterlocklaw3_joined.mono : ∀ a0 a1 a2 k, LeO (letterlocklaw3_joined.f k a0 a1 a2) (letterlocklaw3_joined.f (k + 1) a0 a1 a2) := by
  intro a0 a1 a2 k
  unfold letterlocklaw3_joined.f
  repeat' first
      | (with_reducible exact letterlockref3_Box.mono _ _ _)
      | (with_reducible exact letterlockref3_OfPair.mono _ _ _)
      | (with_reducible exact letterlockref3_OfPublic.mono _ _)
      | (with_reducible exact letterlockref3_Seal.mono _ _ _)
      | (with_reducible exact letterlockref3_Sign.mono _ _ _)
      | (with_reducible exact LeO.refl _)
      | (with_reducible exact LeO.none _)
      | (with_reducible refine LeO.ite ?_ ?_)
      | (with_reducible refine LeO.bind ?_ (fun _ => ?_))
      | exact letterlockref3_Box.mono _ _ _
      | exact letterlockref3_OfPair.mono _ _ _
      | exact letterlockref3_OfPublic.mono _ _
      | exact letterlockref3_Seal.mono _ _ _
      | exact letterlockref3_Sign.mono _ _ _
      | exact LeO.none _
      | refine LeO.ite ?_ ?_
      | refine LeO.bind ?_ (fun _ => ?_)
set_option maxHeartbeats 8000000 in
set_option maxRecDepth 100000 in
theorem letterlocklaw3_joined.calls (k : Nat) (a0 : Int) (a1 : ByteArray) (a2 : ByteArray) (r : ByteArray) (w : World) (h : letterlocklaw3_joined.f k a0 a1 a2 = some r) :
    Calls Try.prog 36 #[.int .i64 a0, .string a1, .string a2] w fun e w' => e = .returned (.string r) ∧ Below w.heap.size w w' := by
  have HB := Aside0.mk (Below.refl w.heap.size w)
  have H : ((letterlocklaw3_pick.f a0 4).bind fun t164 => (if t164 = 0 then ((letterlockref3_OfPair.f k a1 a2).bind fun bt165 => (if bt165.2 = 0 then (some bt165.1) else (some a1))) else (if t164 = 1 then ((letterlockref3_Seal.f k a1 a2).bind fun bt167 => (if bt167.2 = 0 then (some bt167.1) else (some a1))) else (if t164 = 2 then ((letterlockref3_OfPublic.f k a1).bind fun bt169 => ((letterlockref3_Box.f k bt169.1 a2).bind fun bt171 => (if bt171.2 = 0 then (some bt171.1) else (some a1)))) else ((letterlockref3_Sign.f k a1 a2).bind fun bt173 => (if bt173.2 = 0 then (some bt173.1) else (some a1))))))) = some r := h
  clear h
  replace H := Option.bind_eq_some_iff.mp H
  obtain ⟨t164, A40, H⟩ := H
  replace H : (if t164 = 0 then ((letterlockref3_OfPair.f k a1 a2).bind fun bt165 => (if bt165.2 = 0 then (some bt165.1) else (some a1))) else (if t164 = 1 then ((letterlockref3_Seal.f k a1 a2).bind fun bt167 => (if bt167.2 = 0 then (some bt167.1) else (some a1))) else (if t164 = 2 then ((letterlockref3_OfPublic.f k a1).bind fun bt169 => ((letterlockref3_Box.f k bt169.1 a2).bind fun bt171 => (if bt171.2 = 0 then (some bt171.1) else (some a1)))) else ((letterlockref3_Sign.f k a1 a2).bind fun bt173 => (if bt173.2 = 0 then (some bt173.1) else (some a1)))))) = some r := H
  have A4 := Aside0.mk A40
  clear A40
  by_cases c5 : t164 = 0
  · rw [if_pos c5] at H
    have c5b0 : (t164 == 0) = true := beq_iff_eq.mpr c5
    have c5b1 : (t164 != 0) = false := bne_eq_false_iff_eq.mpr c5
    clear c5
    replace H := Option.bind_eq_some_iff.mp H
    obtain ⟨⟨t165, t166⟩, A60, H⟩ := H
    replace H : (if t166 = 0 then (some t165) else (some a1)) = some r := H
    have A6 := Aside0.mk A60
    clear A60
    by_cases c7 : t166 = 0
    · rw [if_pos c7] at H
      have c7b0 : (t166 == 0) = true := beq_iff_eq.mpr c7
      have c7b1 : (t166 != 0) = false := bne_eq_false_iff_eq.mpr c7
      clear c7
      obtain rfl := Option.some.inj H
      go_enter Try.func36, Try.ntmps36
      go_wp2_with (first | ((with_reducible refine gate_callee (f := 26) rfl ?_); refine goesL_ (some 12) rfl rfl Try.func26 (by kernel_rfl) rfl #[.int .i64 a0, .int .i64 4] rfl (by (try simp only [List.map_toArray, List.map_cons, List.map_nil]); first | done | rfl | (simp only [List.length_drop, List.length_take]; rfl)) ?_; (with_reducible refine (letterlocklaw3_pick.calls a0 4 t164 _ A4.out).mono ?_); rintro e w' ⟨rfl, ⟨nd, rfl⟩⟩; refine ⟨_, rfl, ?_⟩) | ((with_reducible refine gate_callee (f := 53) rfl ?_); refine goesL_ (some 24) rfl rfl Try.func53 (by kernel_rfl) rfl #[.string a1, .string a2] rfl (by (try simp only [List.map_toArray, List.map_cons, List.map_nil]); first | done | rfl | (simp only [List.length_drop, List.length_take]; rfl)) ?_; (with_reducible refine (letterlockref3_OfPair.calls k a1 a2 t165 t166 _ A6.out).mono ?_); rintro e w8 ⟨rfl, hb⟩; refine ⟨_, rfl, ?_⟩; have n0_ := Aside0.mk (below_step (by repeat (first | (with_reducible first | exact HB.out | apply below_alloc | apply pw_below_drewN | apply below_drew1) | exact HB.out)) hb); clear HB; have HB := n0_; clear n0_; (try clear hb); (try clear hb2); (try clear hk); (try clear hi)))
      go_ret
      exact ⟨by first | rfl | (simp [errW_none, errW_some] <;> rfl) | (simp [*, errW_none, errW_some] <;> rfl), by repeat (first | (with_reducible first | exact HB.out | apply below_alloc | apply pw_below_drewN | apply below_drew1) | exact HB.out)⟩
    · rw [if_neg c7] at H
      have c7b0 : (t166 == 0) = false := beq_eq_false_iff_ne.mpr c7
      have c7b1 : (t166 != 0) = true := bne_iff_ne.mpr c7
      obtain rfl := Option.some.inj H
      go_enter Try.func36, Try.ntmps36
      go_wp2_with (first | ((with_reducible refine gate_callee (f := 26) rfl ?_); refine goesL_ (some 12) rfl rfl Try.func26 (by kernel_rfl) rfl #[.int .i64 a0, .int .i64 4] rfl (by (try simp only [List.map_toArray, List.map_cons, List.map_nil]); first | done | rfl | (simp only [List.length_drop, List.length_take]; rfl)) ?_; (with_reducible refine (letterlocklaw3_pick.calls a0 4 t164 _ A4.out).mono ?_); rintro e w' ⟨rfl, ⟨nd, rfl⟩⟩; refine ⟨_, rfl, ?_⟩) | ((with_reducible refine gate_callee (f := 53) rfl ?_); refine goesL_ (some 24) rfl rfl Try.func53 (by kernel_rfl) rfl #[.string a1, .string a2] rfl (by (try simp only [List.map_toArray, List.map_cons, List.map_nil]); first | done | rfl | (simp only [List.length_drop, List.length_take]; rfl)) ?_; (with_reducible refine (letterlockref3_OfPair.calls k a1 a2 t165 t166 _ A6.out).mono ?_); rintro e w9 ⟨rfl, hb⟩; refine ⟨_, rfl, ?_⟩; have n0_ := Aside0.mk (below_step (by repeat (first | (with_reducible first | exact HB.out | apply below_alloc | apply pw_below_drewN | apply below_drew1) | exact HB.out)) hb); clear HB; have HB := n0_; clear n0_; (try clear hb); (try clear hb2); (try clear hk); (try clear hi)))
      go_ret
      exact ⟨by first | rfl | (simp [errW_none, errW_some] <;> rfl) | (simp [*, errW_none, errW_some] <;> rfl), by repeat (first | (with_reducible first | exact HB.out | apply below_alloc | apply pw_below_drewN | apply below_drew1) | exact HB.out)⟩
  · rw [if_neg c5] at H
    have c5b0 : (t164 == 0) = false := beq_eq_false_iff_ne.mpr c5
    have c5b1 : (t164 != 0) = true := bne_iff_ne.mpr c5
    by_cases c10 : t164 = 1
    · rw [if_pos c10] at H
      have c10b0 : (t164 == 1) = true := beq_iff_eq.mpr c10
      have c10b1 : (t164 != 1) = false := bne_eq_false_iff_eq.mpr c10
      clear c10
      replace H := Option.bind_eq_some_iff.mp H
      obtain ⟨⟨t167, t168⟩, A110, H⟩ := H
      replace H : (if t168 = 0 then (some t167) else (some a1)) = some r := H
      have A11 := Aside0.mk A110
      clear A110
      by_cases c12 : t168 = 0
      · rw [if_pos c12] at H
        have c12b0 : (t168 == 0) = true := beq_iff_eq.mpr c12
        have c12b1 : (t168 != 0) = false := bne_eq_false_iff_eq.mpr c12
        clear c12
        obtain rfl := Option.some.inj H
        go_enter Try.func36, Try.ntmps36
        go_wp2_with (first | ((with_reducible refine gate_callee (f := 26) rfl ?_); refine goesL_ (some 12) rfl rfl Try.func26 (by kernel_rfl) rfl #[.int .i64 a0, .int .i64 4] rfl (by (try simp only [List.map_toArray, List.map_cons, List.map_nil]); first | done | rfl | (simp only [List.length_drop, List.length_take]; rfl)) ?_; (with_reducible refine (letterlocklaw3_pick.calls a0 4 t164 _ A4.out).mono ?_); rintro e w' ⟨rfl, ⟨nd, rfl⟩⟩; refine ⟨_, rfl, ?_⟩) | ((with_reducible refine gate_callee (f := 54) rfl ?_); refine goesL_ (some 32) rfl rfl Try.func54 (by kernel_rfl) rfl #[.string a1, .string a2] rfl (by (try simp only [List.map_toArray, List.map_cons, List.map_nil]); first | done | rfl | (simp only [List.length_drop, List.length_take]; rfl)) ?_; (with_reducible refine (letterlockref3_Seal.calls k a1 a2 t167 t168 _ A11.out).mono ?_); rintro e w13 ⟨rfl, hb⟩; refine ⟨_, rfl, ?_⟩; have n0_ := Aside0.mk (below_step (by repeat (first | (with_reducible first | exact HB.out | apply below_alloc | apply pw_below_drewN | apply below_drew1) | exact HB.out)) hb); clear HB; have HB := n0_; clear n0_; (try clear hb); (try clear hb2); (try clear hk); (try clear hi)))
        go_ret
        exact ⟨by first | rfl | (simp [errW_none, errW_some] <;> rfl) | (simp [*, errW_none, errW_some] <;> rfl), by repeat (first | (with_reducible first | exact HB.out | apply below_alloc | apply pw_below_drewN | apply below_drew1) | exact HB.out)⟩
      · rw [if_neg c12] at H
        have c12b0 : (t168 == 0) = false := beq_eq_false_iff_ne.mpr c12
        have c12b1 : (t168 != 0) = true := bne_iff_ne.mpr c12
        obtain rfl := Option.some.inj H
        go_enter Try.func36, Try.ntmps36
        go_wp2_with (first | ((with_reducible refine gate_callee (f := 26) rfl ?_); refine goesL_ (some 12) rfl rfl Try.func26 (by kernel_rfl) rfl #[.int .i64 a0, .int .i64 4] rfl (by (try simp only [List.map_toArray, List.map_cons, List.map_nil]); first | done | rfl | (simp only [List.length_drop, List.length_take]; rfl)) ?_; (with_reducible refine (letterlocklaw3_pick.calls a0 4 t164 _ A4.out).mono ?_); rintro e w' ⟨rfl, ⟨nd, rfl⟩⟩; refine ⟨_, rfl, ?_⟩) | ((with_reducible refine gate_callee (f := 54) rfl ?_); refine goesL_ (some 32) rfl rfl Try.func54 (by kernel_rfl) rfl #[.string a1, .string a2] rfl (by (try simp only [List.map_toArray, List.map_cons, List.map_nil]); first | done | rfl | (simp only [List.length_drop, List.length_take]; rfl)) ?_; (with_reducible refine (letterlockref3_Seal.calls k a1 a2 t167 t168 _ A11.out).mono ?_); rintro e w14 ⟨rfl, hb⟩; refine ⟨_, rfl, ?_⟩; have n0_ := Aside0.mk (below_step (by repeat (first | (with_reducible first | exact HB.out | apply below_alloc | apply pw_below_drewN | apply below_drew1) | exact HB.out)) hb); clear HB; have HB := n0_; clear n0_; (try clear hb); (try clear hb2); (try clear hk); (try clear hi)))
        go_ret
        exact ⟨by first | rfl | (simp [errW_none, errW_some] <;> rfl) | (simp [*, errW_none, errW_some] <;> rfl), by repeat (first | (with_reducible first | exact HB.out | apply below_alloc | apply pw_below_drewN | apply below_drew1) | exact HB.out)⟩
    · rw [if_neg c10] at H
      have c10b0 : (t164 == 1) = false := beq_eq_false_iff_ne.mpr c10
      have c10b1 : (t164 != 1) = true := bne_iff_ne.mpr c10
      by_cases c15 : t164 = 2
      · rw [if_pos c15] at H
        have c15b0 : (t164 == 2) = true := beq_iff_eq.mpr c15
        have c15b1 : (t164 != 2) = false := bne_eq_false_iff_eq.mpr c15
        clear c15
        replace H := Option.bind_eq_some_iff.mp H
        obtain ⟨⟨t169, t170⟩, A160, H⟩ := H
        replace H : ((letterlockref3_Box.f k t169 a2).bind fun bt171 => (if bt171.2 = 0 then (some bt171.1) else (some a1))) = some r := H
        have A16 := Aside0.mk A160
        clear A160
        replace H := Option.bind_eq_some_iff.mp H
        obtain ⟨⟨t171, t172⟩, A170, H⟩ := H
        replace H : (if t172 = 0 then (some t171) else (some a1)) = some r := H
        have A17 := Aside0.mk A170
        clear A170
        by_cases c18 : t172 = 0
        · rw [if_pos c18] at H
          have c18b0 : (t172 == 0) = true := beq_iff_eq.mpr c18
          have c18b1 : (t172 != 0) = false := bne_eq_false_iff_eq.mpr c18
          clear c18
          obtain rfl := Option.some.inj H
          go_enter Try.func36, Try.ntmps36
          go_wp2_with (first | ((with_reducible refine gate_callee (f := 26) rfl ?_); refine goesL_ (some 12) rfl rfl Try.func26 (by kernel_rfl) rfl #[.int .i64 a0, .int .i64 4] rfl (by (try simp only [List.map_toArray, List.map_cons, List.map_nil]); first | done | rfl | (simp only [List.length_drop, List.length_take]; rfl)) ?_; (with_reducible refine (letterlocklaw3_pick.calls a0 4 t164 _ A4.out).mono ?_); rintro e w' ⟨rfl, ⟨nd, rfl⟩⟩; refine ⟨_, rfl, ?_⟩) | ((with_reducible refine gate_callee (f := 35) rfl ?_); refine goesL_ (some 39) rfl rfl Try.func35 (by kernel_rfl) rfl #[.string a1] rfl (by (try simp only [List.map_toArray, List.map_cons, List.map_nil]); first | done | rfl | (simp only [List.length_drop, List.length_take]; rfl)) ?_; (with_reducible refine (letterlockref3_OfPublic.calls k a1 t169 t170 _ A16.out).mono ?_); rintro e w19 ⟨rfl, hb⟩; refine ⟨_, rfl, ?_⟩; have n0_ := Aside0.mk (below_step (by repeat (first | (with_reducible first | exact HB.out | apply below_alloc | apply pw_below_drewN | apply below_drew1) | exact HB.out)) hb); clear HB; have HB := n0_; clear n0_; (try clear hb); (try clear hb2); (try clear hk); (try clear hi)) | ((with_reducible refine gate_callee (f := 55) rfl ?_); refine goesL_ (some 45) rfl rfl Try.func55 (by kernel_rfl) rfl #[.string t169, .string a2] rfl (by (try simp only [List.map_toArray, List.map_cons, List.map_nil]); first | done | rfl | (simp only [List.length_drop, List.length_take]; rfl)) ?_; (with_reducible refine (letterlockref3_Box.calls k t169 a2 t171 t172 _ A17.out).mono ?_); rintro e w20 ⟨rfl, hb⟩; refine ⟨_, rfl, ?_⟩; have n0_ := Aside0.mk (below_step (by repeat (first | (with_reducible first | exact HB.out | apply below_alloc | apply pw_below_drewN | apply below_drew1) | exact HB.out)) hb); clear HB; have HB := n0_; clear n0_; (try clear hb); (try clear hb2); (try clear hk); (try clear hi)))
          go_ret
          exact ⟨by first | rfl | (simp [errW_none, errW_some] <;> rfl) | (simp [*, errW_none, errW_some] <;> rfl), by repeat (first | (with_reducible first | exact HB.out | apply below_alloc | apply pw_below_drewN | apply below_drew1) | exact HB.out)⟩
        · rw [if_neg c18] at H
          have c18b0 : (t172 == 0) = false := beq_eq_false_iff_ne.mpr c18
          have c18b1 : (t172 != 0) = true := bne_iff_ne.mpr c18
          obtain rfl := Option.some.inj H
          go_enter Try.func36, Try.ntmps36
          go_wp2_with (first | ((with_reducible refine gate_callee (f := 26) rfl ?_); refine goesL_ (some 12) rfl rfl Try.func26 (by kernel_rfl) rfl #[.int .i64 a0, .int .i64 4] rfl (by (try simp only [List.map_toArray, List.map_cons, List.map_nil]); first | done | rfl | (simp only [List.length_drop, List.length_take]; rfl)) ?_; (with_reducible refine (letterlocklaw3_pick.calls a0 4 t164 _ A4.out).mono ?_); rintro e w' ⟨rfl, ⟨nd, rfl⟩⟩; refine ⟨_, rfl, ?_⟩) | ((with_reducible refine gate_callee (f := 35) rfl ?_); refine goesL_ (some 39) rfl rfl Try.func35 (by kernel_rfl) rfl #[.string a1] rfl (by (try simp only [List.map_toArray, List.map_cons, List.map_nil]); first | done | rfl | (simp only [List.length_drop, List.length_take]; rfl)) ?_; (with_reducible refine (letterlockref3_OfPublic.calls k a1 t169 t170 _ A16.out).mono ?_); rintro e w21 ⟨rfl, hb⟩; refine ⟨_, rfl, ?_⟩; have n0_ := Aside0.mk (below_step (by repeat (first | (with_reducible first | exact HB.out | apply below_alloc | apply pw_below_drewN | apply below_drew1) | exact HB.out)) hb); clear HB; have HB := n0_; clear n0_; (try clear hb); (try clear hb2); (try clear hk); (try clear hi)) | ((with_reducible refine gate_callee (f := 55) rfl ?_); refine goesL_ (some 45) rfl rfl Try.func55 (by kernel_rfl) rfl #[.string t169, .string a2] rfl (by (try simp only [List.map_toArray, List.map_cons, List.map_nil]); first | done | rfl | (simp only [List.length_drop, List.length_take]; rfl)) ?_; (with_reducible refine (letterlockref3_Box.calls k t169 a2 t171 t172 _ A17.out).mono ?_); rintro e w22 ⟨rfl, hb⟩; refine ⟨_, rfl, ?_⟩; have n0_ := Aside0.mk (below_step (by repeat (first | (with_reducible first | exact HB.out | apply below_alloc | apply pw_below_drewN | apply below_drew1) | exact HB.out)) hb); clear HB; have HB := n0_; clear n0_; (try clear hb); (try clear hb2); (try clear hk); (try clear hi)))
          go_ret
          exact ⟨by first | rfl | (simp [errW_none, errW_some] <;> rfl) | (simp [*, errW_none, errW_some] <;> rfl), by repeat (first | (with_reducible first | exact HB.out | apply below_alloc | apply pw_below_drewN | apply below_drew1) | exact HB.out)⟩
      · rw [if_neg c15] at H
        have c15b0 : (t164 == 2) = false := beq_eq_false_iff_ne.mpr c15
        have c15b1 : (t164 != 2) = true := bne_iff_ne.mpr c15
        replace H := Option.bind_eq_some_iff.mp H
        obtain ⟨⟨t173, t174⟩, A230, H⟩ := H
        replace H : (if t174 = 0 then (some t173) else (some a1)) = some r := H
        have A23 := Aside0.mk A230
        clear A230
        by_cases c24 : t174 = 0
        · rw [if_pos c24] at H
          have c24b0 : (t174 == 0) = true := beq_iff_eq.mpr c24
          have c24b1 : (t174 != 0) = false := bne_eq_false_iff_eq.mpr c24
          clear c24
          obtain rfl := Option.some.inj H
          go_enter Try.func36, Try.ntmps36
          go_wp2_with (first | ((with_reducible refine gate_callee (f := 26) rfl ?_); refine goesL_ (some 12) rfl rfl Try.func26 (by kernel_rfl) rfl #[.int .i64 a0, .int .i64 4] rfl (by (try simp only [List.map_toArray, List.map_cons, List.map_nil]); first | done | rfl | (simp only [List.length_drop, List.length_take]; rfl)) ?_; (with_reducible refine (letterlocklaw3_pick.calls a0 4 t164 _ A4.out).mono ?_); rintro e w' ⟨rfl, ⟨nd, rfl⟩⟩; refine ⟨_, rfl, ?_⟩) | ((with_reducible refine gate_callee (f := 56) rfl ?_); refine goesL_ (some 16) rfl rfl Try.func56 (by kernel_rfl) rfl #[.string a1, .string a2] rfl (by (try simp only [List.map_toArray, List.map_cons, List.map_nil]); first | done | rfl | (simp only [List.length_drop, List.length_take]; rfl)) ?_; (with_reducible refine (letterlockref3_Sign.calls k a1 a2 t173 t174 _ A23.out).mono ?_); rintro e w25 ⟨rfl, hb⟩; refine ⟨_, rfl, ?_⟩; have n0_ := Aside0.mk (below_step (by repeat (first | (with_reducible first | exact HB.out | apply below_alloc | apply pw_below_drewN | apply below_drew1) | exact HB.out)) hb); clear HB; have HB := n0_; clear n0_; (try clear hb); (try clear hb2); (try clear hk); (try clear hi)))
          go_ret
          exact ⟨by first | rfl | (simp [errW_none, errW_some] <;> rfl) | (simp [*, errW_none, errW_some] <;> rfl), by repeat (first | (with_reducible first | exact HB.out | apply below_alloc | apply pw_below_drewN | apply below_drew1) | exact HB.out)⟩
        · rw [if_neg c24] at H
          have c24b0 : (t174 == 0) = false := beq_eq_false_iff_ne.mpr c24
          have c24b1 : (t174 != 0) = true := bne_iff_ne.mpr c24
          obtain rfl := Option.some.inj H
          go_enter Try.func36, Try.ntmps36
          go_wp2_with (first | ((with_reducible refine gate_callee (f := 26) rfl ?_); refine goesL_ (some 12) rfl rfl Try.func26 (by kernel_rfl) rfl #[.int .i64 a0, .int .i64 4] rfl (by (try simp only [List.map_toArray, List.map_cons, List.map_nil]); first | done | rfl | (simp only [List.length_drop, List.length_take]; rfl)) ?_; (with_reducible refine (letterlocklaw3_pick.calls a0 4 t164 _ A4.out).mono ?_); rintro e w' ⟨rfl, ⟨nd, rfl⟩⟩; refine ⟨_, rfl, ?_⟩) | ((with_reducible refine gate_callee (f := 56) rfl ?_); refine goesL_ (some 16) rfl rfl Try.func56 (by kernel_rfl) rfl #[.string a1, .string a2] rfl (by (try simp only [List.map_toArray, List.map_cons, List.map_nil]); first | done | rfl | (simp only [List.length_drop, List.length_take]; rfl)) ?_; (with_reducible refine (letterlockref3_Sign.calls k a1 a2 t173 t174 _ A23.out).mono ?_); rintro e w26 ⟨rfl, hb⟩; refine ⟨_, rfl, ?_⟩; have n0_ := Aside0.mk (below_step (by repeat (first | (with_reducible first | exact HB.out | apply below_alloc | apply pw_below_drewN | apply below_drew1) | exact HB.out)) hb); clear HB; have HB := n0_; clear n0_; (try clear hb); (try clear hb2); (try clear hk); (try clear hi)))
          go_ret
          exact ⟨by first | rfl | (simp [errW_none, errW_some] <;> rfl) | (simp [*, errW_none, errW_some] <;> rfl), by repeat (first | (with_reducible first | exact HB.out | apply below_alloc | apply pw_below_drewN | apply below_drew1) | exact HB.out)⟩

/-! ### letterlocklaw3_grown: function 11 -/
mutual
def letterlocklaw3_grown.l0 : Nat → List Int → List ByteArray → Int → Option (ByteArray)
  | 0, _, _, _ => none
  | k + 1, x0, x3, x4 => if x4 < (x0.length : Int) then (letterlocklaw3_grown.j1 k x0 x3 x4 (decide (x4 < 40))) else (letterlocklaw3_grown.j1 k x0 x3 x4 false)
def letterlocklaw3_grown.j1 : Nat → List Int → List ByteArray → Int → Bool → Option (ByteArray)
  | 0, _, _, _, _ => none
  | k + 1, x0, x3, x4, x24 => if x24 = true then (if 0 ≤ x4 then (if x4 < (x0.length : Int) then ((letterlocklaw3_pick.f (rd x0 x4) 10).bind fun t181 => ((letterlocklaw3_pick.f (wrap64 (Int.tdiv (rd x0 x4) 10)) 5).bind fun t183 => (if t181 < 3 then ((letterlockref3_OfAtom.f k (IntKind.u64.wrap (t183))).bind fun t184 => (if x3.length < 8796093022208 then (letterlocklaw3_grown.l0 k x0 (x3 ++ [t184]) (wrap64 (x4 + 1))) else (none))) else (if t181 = 3 then (if 0 ≤ t183 then (if t183 ≤ 5 then ((letterlockref3_OfText.f k ((⟨#[97, 98, 99, 100, 101]⟩ : ByteArray).extract 0 (t183 : Int).toNat)).bind fun bt188 => (if x3.length < 8796093022208 then (letterlocklaw3_grown.l0 k x0 (x3 ++ [bt188.1]) (wrap64 (x4 + 1))) else (none))) else (none)) else (none)) else (if t181 = 4 then (if 0 ≤ (wrap64 ((x3.length : Int) - 1)) then (if (wrap64 ((x3.length : Int) - 1)) < (x3.length : Int) then ((letterlockref3_OfHash.f k (rdOf ByteArray.empty x3 (wrap64 ((x3.length : Int) - 1)))).bind fun bt194 => (if bt194.2 = 0 then (letterlocklaw3_grown.l0 k x0 (x3.set ((wrap64 ((x3.length : Int) - 1)) : Int).toNat bt194.1) (wrap64 (x4 + 1))) else (letterlocklaw3_grown.l0 k x0 x3 (wrap64 (x4 + 1))))) else (none)) else (none)) else (if t181 = 5 then (if 0 ≤ (wrap64 ((x3.length : Int) - 1)) then (if (wrap64 ((x3.length : Int) - 1)) < (x3.length : Int) then ((letterlockref3_OfPublic.f k (rdOf ByteArray.empty x3 (wrap64 ((x3.length : Int) - 1)))).bind fun bt198 => (if bt198.2 = 0 then (letterlocklaw3_grown.l0 k x0 (x3.set ((wrap64 ((x3.length : Int) - 1)) : Int).toNat bt198.1) (wrap64 (x4 + 1))) else (letterlocklaw3_grown.l0 k x0 x3 (wrap64 (x4 + 1))))) else (none)) else (none)) else (if (x3.length : Int) > 1 then (if 0 ≤ (wrap64 ((x3.length : Int) - 2)) then (if (wrap64 ((x3.length : Int) - 2)) < (x3.length : Int) then (if 0 ≤ (wrap64 ((x3.length : Int) - 1)) then (if (wrap64 ((x3.length : Int) - 1)) < (x3.length : Int) then ((letterlocklaw3_joined.f k t181 (rdOf ByteArray.empty x3 (wrap64 ((x3.length : Int) - 2))) (rdOf ByteArray.empty x3 (wrap64 ((x3.length : Int) - 1)))).bind fun t203 => ((some (([] : List ByteArray) : List ByteArray)).bind fun y204 => (if (wrap64 ((x3.length : Int) - 2)) ≤ (x3.length : Int) then ((some (x3.take ((wrap64 ((x3.length : Int) - 2)) : Int).toNat : List ByteArray)).bind fun y207 => (if y204.length + y207.length < 8796093022208 then ((some (y204 ++ y207 : List ByteArray)).bind fun y211 => (if y211.length < 8796093022208 then (letterlocklaw3_grown.l0 k x0 (y211 ++ [t203]) (wrap64 (x4 + 1))) else (none))) else (none))) else (none)))) else (none)) else (none)) else (none)) else (none)) else (letterlocklaw3_grown.l0 k x0 x3 (wrap64 (x4 + 1)))))))))) else (none)) else (none)) else (if 0 ≤ (wrap64 ((x3.length : Int) - 1)) then (if (wrap64 ((x3.length : Int) - 1)) < (x3.length : Int) then (some (rdOf ByteArray.empty x3 (wrap64 ((x3.length : Int) - 1)))) else (none)) else (none))
end
def letterlocklaw3_grown.f (k : Nat) (l0 : List Int) : Option (ByteArray) := (letterlockref3_OfAtom.f k 0).bind fun t175 => (letterlocklaw3_grown.l0 k l0 (([t175] : List ByteArray)) 0)
theorem letterlocklaw3_grown.mono_l : ∀ k, (∀ y0 y1 y2, LeO (letterlocklaw3_grown.l0 k y0 y1 y2) (letterlocklaw3_grown.l0 (k + 1) y0 y1 y2)) ∧ (∀ y0 y1 y2 y3, LeO (letterlocklaw3_grown.j1 k y0 y1 y2 y3) (letterlocklaw3_grown.j1 (k + 1) y0 y1 y2 y3))
  | 0 => ⟨fun _ _ _ r h => by simp [letterlocklaw3_grown.l0] at h, fun _ _ _ _ r h => by simp [letterlocklaw3_grown.j1] at h⟩
  | k + 1 => by
    obtain ⟨ih0, ih1⟩ := letterlocklaw3_grown.mono_l k
    refine ⟨?_, ?_⟩
    · intro y0 y1 y2
      unfold letterlocklaw3_grown.l0
      repeat' first
      | (with_reducible exact ih0 _ _ _)
      | (with_reducible exact ih1 _ _ _ _)
      | (with_reducible exact letterlocklaw3_joined.mono _ _ _ _)
      | (with_reducible exact letterlockref3_OfAtom.mono _ _)
      | (with_reducible exact letterlockref3_OfHash.mono _ _)
      | (with_reducible exact letterlockref3_OfPublic.mono _ _)
      | (with_reducible exact letterlockref3_OfText.mono _ _)
      | (with_reducible exact LeO.refl _)
      | (with_reducible exact LeO.none _)
      | (with_reducible refine LeO.ite ?_ ?_)
      | (with_reducible refine LeO.bind ?_ (fun _ => ?_))
      | exact ih0 _ _ _
      | exact ih1 _ _ _ _
      | exact letterlocklaw3_joined.mono _ _ _ _
      | exact letterlockref3_OfAtom.mono _ _
      | exact letterlockref3_OfHash.mono _ _
      | exact letterlockref3_OfPublic.mono _ _
      | exact letterlockref3_OfText.mono _ _
      | exact LeO.none _
      | refine LeO.ite ?_ ?_
      | refine LeO.bind ?_ (fun _ => ?_)
    · intro y0 y1 y2 y3
      unfold letterlocklaw3_grown.j1
      repeat' first
      | (with_reducible exact ih0 _ _ _)
      | (with_reducible exact ih1 _ _ _ _)
      | (with_reducible exact letterlocklaw3_joined.mono _ _ _ _)
      | (with_reducible exact letterlockref3_OfAtom.mono _ _)
      | (with_reducible exact letterlockref3_OfHash.mono _ _)
      | (with_reducible exact letterlockref3_OfPublic.mono _ _)
      | (with_reducible exact letterlockref3_OfText.mono _ _)
      | (with_reducible exact LeO.refl _)
      | (with_reducible exact LeO.none _)
      | (with_reducible refine LeO.ite ?_ ?_)
      | (with_reducible refine LeO.bind ?_ (fun _ => ?_))
      | exact ih0 _ _ _
      | exact ih1 _ _ _ _
      | exact letterlocklaw3_joined.mono _ _ _ _
      | exact letterlockref3_OfAtom.mono _ _
      | exact letterlockref3_OfHash.mono _ _
      | exact letterlockref3_OfPublic.mono _ _
      | exact letterlockref3_OfText.mono _ _
      | exact LeO.none _
      | refine LeO.ite ?_ ?_
      | refine LeO.bind ?_ (fun _ => ?_)
theorem letterlocklaw3_grown.mono : ∀ a0 k, LeO (letterlocklaw3_grown.f k a0) (letterlocklaw3_grown.f (k + 1) a0) := by
  intro a0 k
  obtain ⟨ih0, ih1⟩ := letterlocklaw3_grown.mono_l k
  unfold letterlocklaw3_grown.f
  repeat' first
      | (with_reducible exact ih0 _ _ _)
      | (with_reducible exact ih1 _ _ _ _)
      | (with_reducible exact letterlocklaw3_joined.mono _ _ _ _)
      | (with_reducible exact letterlockref3_OfAtom.mono _ _)
      | (with_reducible exact letterlockref3_OfHash.mono _ _)
      | (with_reducible exact letterlockref3_OfPublic.mono _ _)
      | (with_reducible exact letterlockref3_OfText.mono _ _)
      | (with_reducible exact LeO.refl _)
      | (with_reducible exact LeO.none _)
      | (with_reducible refine LeO.ite ?_ ?_)
      | (with_reducible refine LeO.bind ?_ (fun _ => ?_))
      | exact ih0 _ _ _
      | exact ih1 _ _ _ _
      | exact letterlocklaw3_joined.mono _ _ _ _
      | exact letterlockref3_OfAtom.mono _ _
      | exact letterlockref3_OfHash.mono _ _
      | exact letterlockref3_OfPublic.mono _ _
      | exact letterlockref3_OfText.mono _ _
      | exact LeO.none _
      | refine LeO.ite ?_ ?_
      | refine LeO.bind ?_ (fun _ => ?_)
def letterlocklaw3_grown.T22 : Bool × List (List Nat × List Nat) := (true, [([], []), ([], []), ([], []), ([2], [2]), ([1, 3], [1, 3]), ([4], [4]), ([], []), ([], []), ([7], [7]), ([6, 8], [6, 8]), ([9], [9]), ([0, 5, 10], [0, 5, 10]), ([11, 11, 0, 1, 2, 3, 4, 5, 6, 7, 8, 9, 10, 11], [11])])
def letterlocklaw3_grown.B22 : List Nat := [0, 0, 0, 4, 14, 30, 0, 0, 128, 448, 960, 2047, 4095]
theorem letterlocklaw3_grown.tab22 : rtab .any (opsOf Try.f11 22) = letterlocklaw3_grown.T22 := by kernel_rfl
theorem letterlocklaw3_grown.bits22 : waitsOk letterlocklaw3_grown.T22.2 letterlocklaw3_grown.B22 = true := by kernel_rfl
set_option maxHeartbeats 8000000 in
set_option maxRecDepth 100000 in
theorem letterlocklaw3_grown.calls (k : Nat) (A0 : Option Addr) (c0 : Nat) (l0 : List Int) (r : ByteArray) (w : World) (hr0 : Kd.C (Kd.int .i64) w A0 l0.length l0) (hc0 : l0.length ≤ c0) (h : letterlocklaw3_grown.f k l0 = some r) :
    Calls Try.prog 11 #[.slice A0 l0.length c0] w fun e w' => e = .returned (.string r) ∧ Below w.heap.size w w' := by
  have HR0 := Aside0.mk hr0
  have HC0 := Aside0.mk hc0
  clear hr0 hc0
  have HB := Aside0.mk (Below.refl w.heap.size w)
  have H : ((letterlockref3_OfAtom.f k 0).bind fun t175 => (letterlocklaw3_grown.l0 k l0 (([t175] : List ByteArray)) 0)) = some r := h
  clear h
  replace H := Option.bind_eq_some_iff.mp H
  obtain ⟨t175, A20, H⟩ := H
  replace H : (letterlocklaw3_grown.l0 k l0 (([t175] : List ByteArray)) 0) = some r := H
  have A2 := Aside0.mk A20
  clear A20
  obtain ⟨y176, hy176⟩ : ∃ y_ : List ByteArray, y_ = (([t175] : List ByteArray)) := ⟨_, rfl⟩
  replace H : (letterlocklaw3_grown.l0 k l0 y176 0) = some r := by first | (rw [hy176]; with_reducible exact H) | (have H2_ := (Option.bind_some _ _).symm.trans H; rw [hy176]; with_reducible exact H2_) | (have H2_ := (Option.bind_some _ _).symm.trans H; with_reducible exact H2_) | with_reducible exact H | (rw [hy176]; exact H) | exact H
  have Ny176 := Aside0.mk hy176
  clear hy176
  have H' := Aside0.mk H
  clear H
  go_enter Try.func11, Try.ntmps11
  go_wp2_with (first | ((with_reducible refine gate_callee (f := 25) rfl ?_); refine goesL_ (some 15) rfl rfl Try.func25 (by kernel_rfl) rfl #[.int .u64 0] rfl (by (try simp only [List.map_toArray, List.map_cons, List.map_nil]); first | done | rfl | (simp only [List.length_drop, List.length_take]; rfl)) ?_; (with_reducible refine (letterlockref3_OfAtom.calls k 0 t175 _ A2.out).mono ?_); rintro e w3 ⟨rfl, hb⟩; refine ⟨_, rfl, ?_⟩; have n0_ := Aside0.mk (below_step (by repeat (first | (with_reducible first | exact HB.out | apply below_alloc | apply pw_below_drewN | apply below_drew1) | exact HB.out)) hb); clear HB; have HB := n0_; clear n0_; (try clear hb); (try clear hb2); (try clear hk); (try clear hi)) | ((with_reducible refine gate_dst (N := 16) rfl ?_); refine Kd.R_lit Kd.string _ 9 ?hg (N := 16) ?hd (xs := ([t175] : List ByteArray)) (inner := [.string t175]) (ok := fun _ => True) (okp := fun _ => True) ?hr ?hp (fun _ hk => hk) trivial (Below.refl _ _) (Nat.le_refl _) (by simp) ?_; (case hd => rfl); (case hg => rfl); (case hr => first | (go_simp; done) | (go_simp; rfl)); (case hp => exact (Reps.one (show Kd.M Kd.string _ _ _ t175 [.string t175] from rfl) (Reps.none _ _))); intro v177 w4 ho5 hb hg_ hnew_; clear hg_ hnew_; (first | rw [← Ny176.out] at ho5 | (simp only [Int.reduceToNat] at ho5; rw [← Ny176.out] at ho5)); have n0_ := Aside0.mk (Kd.R_lower ho5 (below_size (by repeat (first | (with_reducible first | exact HB.out | apply below_alloc | apply pw_below_drewN | apply below_drew1) | exact HB.out)))); have n1_ := Aside0.mk (below_step (by repeat (first | (with_reducible first | exact HB.out | apply below_alloc | apply pw_below_drewN | apply below_drew1) | exact HB.out)) hb); clear HB; have HO178 := n0_; have HB := n1_; clear n0_ n1_; clear hb ho5))
  go_loopg [3, 4] k (fun kq v3 v4 w' => ∃ (x3_1 : List ByteArray) (x4_1 : Int), v4 = .int .i64 x4_1 ∧ Aside0 (letterlocklaw3_grown.l0 kq l0 x3_1 x4_1 = some r) ∧ Aside0 (kq ≤ k) ∧ Aside0 (Kd.R Kd.string 9 w' w.heap.size (fun _ => True) v3 x3_1) ∧ Aside0 (Below w.heap.size w w'))
  case atStart => exact ⟨(y176), (0), (by first | rfl | (simp; done) | (simp [*]; done) | (simp; exact isEmpty_ne _)), H', ⟨Nat.le_refl _⟩, ⟨by (with_reducible repeat (first | apply Kd.R_alloc | apply Kd.R_drewN | apply Kd.R_drew)); exact HO178.out⟩, ⟨by repeat (first | (with_reducible first | exact HB.out | apply below_alloc | apply pw_below_drewN | apply below_drew1) | exact HB.out)⟩⟩
  case round => as_aux_lemma =>
    clear H'
    try clear c1
    try clear c2
    try clear p2
    obtain ⟨x3_1, x4_1, rfl, HA, HK1, HO_3, HB⟩ := hrel
    cases gk with
    | zero => exact absurd HA.out (by simp [letterlocklaw3_grown.l0])
    | succ k1 =>
      have H := HA.out
      clear HA
      simp only [letterlocklaw3_grown.l0] at H
      have HC6 := Aside0.mk H
      clear H
      go_upto_region 3 with (fail)
      go_cut [24] (fun v24 wc => ∃ (kq : Nat) (x24_5 : Bool), v24 = .bool x24_5 ∧ Aside0 (letterlocklaw3_grown.j1 kq l0 x3_1 x4_1 x24_5 = some r) ∧ Aside0 (kq ≤ k1) ∧ Aside0 (Kd.R Kd.string 9 wc w.heap.size (fun _ => True) u3 x3_1) ∧ Aside0 (Below w.heap.size w wc))
      case first => as_aux_lemma =>
        have H := HC6.out
        clear HC6
        by_cases c7 : x4_1 < (l0.length : Int)
        · rw [if_pos c7] at H
          have c7b0 : decide (x4_1 < (l0.length : Int)) = true := decide_eq_true c7
          clear c7
          (first | rw [c7b0] | (simp only [i64_w, i32_w]; rw [c7b0]) | skip)
          have H' := Aside0.mk H
          clear H
          go_wp2
          go_meet
          case rel => exact ⟨_, (decide (x4_1 < 40)), (by first | rfl | (simp; done) | (simp [*]; done) | (simp; exact isEmpty_ne _)), H', ⟨by have := HK1.out; first | omega | exact Nat.le_refl _⟩, ⟨by (with_reducible repeat (first | apply Kd.R_alloc | apply Kd.R_drewN | apply Kd.R_drew)); exact HO_3.out⟩, ⟨by repeat (first | (with_reducible first | exact HB.out | apply below_alloc | apply pw_below_drewN | apply below_drew1) | exact HB.out)⟩⟩
        · rw [if_neg c7] at H
          have c7b0 : decide (x4_1 < (l0.length : Int)) = false := decide_eq_false c7
          clear c7
          (first | rw [c7b0] | (simp only [i64_w, i32_w]; rw [c7b0]) | skip)
          have H' := Aside0.mk H
          clear H
          go_wp2
          go_meet
          case rel => exact ⟨_, (false), (by first | rfl | (simp; done) | (simp [*]; done) | (simp; exact isEmpty_ne _)), H', ⟨by have := HK1.out; first | omega | exact Nat.le_refl _⟩, ⟨by (with_reducible repeat (first | apply Kd.R_alloc | apply Kd.R_drewN | apply Kd.R_drew)); exact HO_3.out⟩, ⟨by repeat (first | (with_reducible first | exact HB.out | apply below_alloc | apply pw_below_drewN | apply below_drew1) | exact HB.out)⟩⟩
      case rest => as_aux_lemma =>
        clear HC6
        try clear c1
        try clear c2
        try clear p2
        try clear c7
        try clear c7b0
        try clear p2
        obtain ⟨kq, x24_5, rfl, HA, HJ5, HO_3, HB⟩ := hcut
        cases kq with
        | zero => exact absurd HA.out (by simp [letterlocklaw3_grown.j1])
        | succ kj5 =>
          have H := HA.out
          clear HA
          simp only [letterlocklaw3_grown.j1] at H
          by_cases c8 : x24_5 = true
          · subst c8
            have H1 : (if 0 ≤ x4_1 then (if x4_1 < (l0.length : Int) then ((letterlocklaw3_pick.f (rd l0 x4_1) 10).bind fun t181 => ((letterlocklaw3_pick.f (wrap64 (Int.tdiv (rd l0 x4_1) 10)) 5).bind fun t183 => (if t181 < 3 then ((letterlockref3_OfAtom.f kj5 (IntKind.u64.wrap (t183))).bind fun t184 => (if x3_1.length < 8796093022208 then (letterlocklaw3_grown.l0 kj5 l0 (x3_1 ++ [t184]) (wrap64 (x4_1 + 1))) else (none))) else (if t181 = 3 then (if 0 ≤ t183 then (if t183 ≤ 5 then ((letterlockref3_OfText.f kj5 ((⟨#[97, 98, 99, 100, 101]⟩ : ByteArray).extract 0 (t183 : Int).toNat)).bind fun bt188 => (if x3_1.length < 8796093022208 then (letterlocklaw3_grown.l0 kj5 l0 (x3_1 ++ [bt188.1]) (wrap64 (x4_1 + 1))) else (none))) else (none)) else (none)) else (if t181 = 4 then (if 0 ≤ (wrap64 ((x3_1.length : Int) - 1)) then (if (wrap64 ((x3_1.length : Int) - 1)) < (x3_1.length : Int) then ((letterlockref3_OfHash.f kj5 (rdOf ByteArray.empty x3_1 (wrap64 ((x3_1.length : Int) - 1)))).bind fun bt194 => (if bt194.2 = 0 then (letterlocklaw3_grown.l0 kj5 l0 (x3_1.set ((wrap64 ((x3_1.length : Int) - 1)) : Int).toNat bt194.1) (wrap64 (x4_1 + 1))) else (letterlocklaw3_grown.l0 kj5 l0 x3_1 (wrap64 (x4_1 + 1))))) else (none)) else (none)) else (if t181 = 5 then (if 0 ≤ (wrap64 ((x3_1.length : Int) - 1)) then (if (wrap64 ((x3_1.length : Int) - 1)) < (x3_1.length : Int) then ((letterlockref3_OfPublic.f kj5 (rdOf ByteArray.empty x3_1 (wrap64 ((x3_1.length : Int) - 1)))).bind fun bt198 => (if bt198.2 = 0 then (letterlocklaw3_grown.l0 kj5 l0 (x3_1.set ((wrap64 ((x3_1.length : Int) - 1)) : Int).toNat bt198.1) (wrap64 (x4_1 + 1))) else (letterlocklaw3_grown.l0 kj5 l0 x3_1 (wrap64 (x4_1 + 1))))) else (none)) else (none)) else (if (x3_1.length : Int) > 1 then (if 0 ≤ (wrap64 ((x3_1.length : Int) - 2)) then (if (wrap64 ((x3_1.length : Int) - 2)) < (x3_1.length : Int) then (if 0 ≤ (wrap64 ((x3_1.length : Int) - 1)) then (if (wrap64 ((x3_1.length : Int) - 1)) < (x3_1.length : Int) then ((letterlocklaw3_joined.f kj5 t181 (rdOf ByteArray.empty x3_1 (wrap64 ((x3_1.length : Int) - 2))) (rdOf ByteArray.empty x3_1 (wrap64 ((x3_1.length : Int) - 1)))).bind fun t203 => ((some (([] : List ByteArray) : List ByteArray)).bind fun y204 => (if (wrap64 ((x3_1.length : Int) - 2)) ≤ (x3_1.length : Int) then ((some (x3_1.take ((wrap64 ((x3_1.length : Int) - 2)) : Int).toNat : List ByteArray)).bind fun y207 => (if y204.length + y207.length < 8796093022208 then ((some (y204 ++ y207 : List ByteArray)).bind fun y211 => (if y211.length < 8796093022208 then (letterlocklaw3_grown.l0 kj5 l0 (y211 ++ [t203]) (wrap64 (x4_1 + 1))) else (none))) else (none))) else (none)))) else (none)) else (none)) else (none)) else (none)) else (letterlocklaw3_grown.l0 kj5 l0 x3_1 (wrap64 (x4_1 + 1)))))))))) else (none)) else (none)) = some r := by rw [if_pos rfl] at H; exact H
            clear H
            have H := H1
            clear H1
            by_cases c9 : 0 ≤ x4_1
            · rw [if_pos c9] at H
              have c9b0 : decide (0 ≤ x4_1) = true := decide_eq_true c9
              clear c9
              by_cases c10 : x4_1 < (l0.length : Int)
              · rw [if_pos c10] at H
                have c10b0 : decide (x4_1 < (l0.length : Int)) = true := decide_eq_true c10
                clear c10
                replace H := Option.bind_eq_some_iff.mp H
                obtain ⟨t181, A110, H⟩ := H
                replace H : ((letterlocklaw3_pick.f (wrap64 (Int.tdiv (rd l0 x4_1) 10)) 5).bind fun t183 => (if t181 < 3 then ((letterlockref3_OfAtom.f kj5 (IntKind.u64.wrap (t183))).bind fun t184 => (if x3_1.length < 8796093022208 then (letterlocklaw3_grown.l0 kj5 l0 (x3_1 ++ [t184]) (wrap64 (x4_1 + 1))) else (none))) else (if t181 = 3 then (if 0 ≤ t183 then (if t183 ≤ 5 then ((letterlockref3_OfText.f kj5 ((⟨#[97, 98, 99, 100, 101]⟩ : ByteArray).extract 0 (t183 : Int).toNat)).bind fun bt188 => (if x3_1.length < 8796093022208 then (letterlocklaw3_grown.l0 kj5 l0 (x3_1 ++ [bt188.1]) (wrap64 (x4_1 + 1))) else (none))) else (none)) else (none)) else (if t181 = 4 then (if 0 ≤ (wrap64 ((x3_1.length : Int) - 1)) then (if (wrap64 ((x3_1.length : Int) - 1)) < (x3_1.length : Int) then ((letterlockref3_OfHash.f kj5 (rdOf ByteArray.empty x3_1 (wrap64 ((x3_1.length : Int) - 1)))).bind fun bt194 => (if bt194.2 = 0 then (letterlocklaw3_grown.l0 kj5 l0 (x3_1.set ((wrap64 ((x3_1.length : Int) - 1)) : Int).toNat bt194.1) (wrap64 (x4_1 + 1))) else (letterlocklaw3_grown.l0 kj5 l0 x3_1 (wrap64 (x4_1 + 1))))) else (none)) else (none)) else (if t181 = 5 then (if 0 ≤ (wrap64 ((x3_1.length : Int) - 1)) then (if (wrap64 ((x3_1.length : Int) - 1)) < (x3_1.length : Int) then ((letterlockref3_OfPublic.f kj5 (rdOf ByteArray.empty x3_1 (wrap64 ((x3_1.length : Int) - 1)))).bind fun bt198 => (if bt198.2 = 0 then (letterlocklaw3_grown.l0 kj5 l0 (x3_1.set ((wrap64 ((x3_1.length : Int) - 1)) : Int).toNat bt198.1) (wrap64 (x4_1 + 1))) else (letterlocklaw3_grown.l0 kj5 l0 x3_1 (wrap64 (x4_1 + 1))))) else (none)) else (none)) else (if (x3_1.length : Int) > 1 then (if 0 ≤ (wrap64 ((x3_1.length : Int) - 2)) then (if (wrap64 ((x3_1.length : Int) - 2)) < (x3_1.length : Int) then (if 0 ≤ (wrap64 ((x3_1.length : Int) - 1)) then (if (wrap64 ((x3_1.length : Int) - 1)) < (x3_1.length : Int) then ((letterlocklaw3_joined.f kj5 t181 (rdOf ByteArray.empty x3_1 (wrap64 ((x3_1.length : Int) - 2))) (rdOf ByteArray.empty x3_1 (wrap64 ((x3_1.length : Int) - 1)))).bind fun t203 => ((some (([] : List ByteArray) : List ByteArray)).bind fun y204 => (if (wrap64 ((x3_1.length : Int) - 2)) ≤ (x3_1.length : Int) then ((some (x3_1.take ((wrap64 ((x3_1.length : Int) - 2)) : Int).toNat : List ByteArray)).bind fun y207 => (if y204.length + y207.length < 8796093022208 then ((some (y204 ++ y207 : List ByteArray)).bind fun y211 => (if y211.length < 8796093022208 then (letterlocklaw3_grown.l0 kj5 l0 (y211 ++ [t203]) (wrap64 (x4_1 + 1))) else (none))) else (none))) else (none)))) else (none)) else (none)) else (none)) else (none)) else (letterlocklaw3_grown.l0 kj5 l0 x3_1 (wrap64 (x4_1 + 1))))))))) = some r := H
                have A11 := Aside0.mk A110
                clear A110
                replace H := Option.bind_eq_some_iff.mp H
                obtain ⟨t183, A120, H⟩ := H
                replace H : (if t181 < 3 then ((letterlockref3_OfAtom.f kj5 (IntKind.u64.wrap (t183))).bind fun t184 => (if x3_1.length < 8796093022208 then (letterlocklaw3_grown.l0 kj5 l0 (x3_1 ++ [t184]) (wrap64 (x4_1 + 1))) else (none))) else (if t181 = 3 then (if 0 ≤ t183 then (if t183 ≤ 5 then ((letterlockref3_OfText.f kj5 ((⟨#[97, 98, 99, 100, 101]⟩ : ByteArray).extract 0 (t183 : Int).toNat)).bind fun bt188 => (if x3_1.length < 8796093022208 then (letterlocklaw3_grown.l0 kj5 l0 (x3_1 ++ [bt188.1]) (wrap64 (x4_1 + 1))) else (none))) else (none)) else (none)) else (if t181 = 4 then (if 0 ≤ (wrap64 ((x3_1.length : Int) - 1)) then (if (wrap64 ((x3_1.length : Int) - 1)) < (x3_1.length : Int) then ((letterlockref3_OfHash.f kj5 (rdOf ByteArray.empty x3_1 (wrap64 ((x3_1.length : Int) - 1)))).bind fun bt194 => (if bt194.2 = 0 then (letterlocklaw3_grown.l0 kj5 l0 (x3_1.set ((wrap64 ((x3_1.length : Int) - 1)) : Int).toNat bt194.1) (wrap64 (x4_1 + 1))) else (letterlocklaw3_grown.l0 kj5 l0 x3_1 (wrap64 (x4_1 + 1))))) else (none)) else (none)) else (if t181 = 5 then (if 0 ≤ (wrap64 ((x3_1.length : Int) - 1)) then (if (wrap64 ((x3_1.length : Int) - 1)) < (x3_1.length : Int) then ((letterlockref3_OfPublic.f kj5 (rdOf ByteArray.empty x3_1 (wrap64 ((x3_1.length : Int) - 1)))).bind fun bt198 => (if bt198.2 = 0 then (letterlocklaw3_grown.l0 kj5 l0 (x3_1.set ((wrap64 ((x3_1.length : Int) - 1)) : Int).toNat bt198.1) (wrap64 (x4_1 + 1))) else (letterlocklaw3_grown.l0 kj5 l0 x3_1 (wrap64 (x4_1 + 1))))) else (none)) else (none)) else (if (x3_1.length : Int) > 1 then (if 0 ≤ (wrap64 ((x3_1.length : Int) - 2)) then (if (wrap64 ((x3_1.length : Int) - 2)) < (x3_1.length : Int) then (if 0 ≤ (wrap64 ((x3_1.length : Int) - 1)) then (if (wrap64 ((x3_1.length : Int) - 1)) < (x3_1.length : Int) then ((letterlocklaw3_joined.f kj5 t181 (rdOf ByteArray.empty x3_1 (wrap64 ((x3_1.length : Int) - 2))) (rdOf ByteArray.empty x3_1 (wrap64 ((x3_1.length : Int) - 1)))).bind fun t203 => ((some (([] : List ByteArray) : List ByteArray)).bind fun y204 => (if (wrap64 ((x3_1.length : Int) - 2)) ≤ (x3_1.length : Int) then ((some (x3_1.take ((wrap64 ((x3_1.length : Int) - 2)) : Int).toNat : List ByteArray)).bind fun y207 => (if y204.length + y207.length < 8796093022208 then ((some (y204 ++ y207 : List ByteArray)).bind fun y211 => (if y211.length < 8796093022208 then (letterlocklaw3_grown.l0 kj5 l0 (y211 ++ [t203]) (wrap64 (x4_1 + 1))) else (none))) else (none))) else (none)))) else (none)) else (none)) else (none)) else (none)) else (letterlocklaw3_grown.l0 kj5 l0 x3_1 (wrap64 (x4_1 + 1)))))))) = some r := H
                have A12 := Aside0.mk A120
                clear A120
                by_cases c13 : t181 < 3
                · rw [if_pos c13] at H
                  have c13b0 : decide (t181 < 3) = true := decide_eq_true c13
                  clear c13
                  replace H := Option.bind_eq_some_iff.mp H
                  obtain ⟨t184, A140, H⟩ := H
                  replace H : (if x3_1.length < 8796093022208 then (letterlocklaw3_grown.l0 kj5 l0 (x3_1 ++ [t184]) (wrap64 (x4_1 + 1))) else (none)) = some r := H
                  have A14 := Aside0.mk A140
                  clear A140
                  by_cases c15 : x3_1.length < 8796093022208
                  · rw [if_pos c15] at H
                    have LMc15 := Aside0.mk c15
                    clear c15
                    obtain ⟨y185, hy185⟩ : ∃ y_ : List ByteArray, y_ = (x3_1 ++ [t184]) := ⟨_, rfl⟩
                    replace H : (letterlocklaw3_grown.l0 kj5 l0 y185 (wrap64 (x4_1 + 1))) = some r := by first | (rw [hy185]; with_reducible exact H) | (have H2_ := (Option.bind_some _ _).symm.trans H; rw [hy185]; with_reducible exact H2_) | (have H2_ := (Option.bind_some _ _).symm.trans H; with_reducible exact H2_) | with_reducible exact H | (rw [hy185]; exact H) | exact H
                    have Ny185 := Aside0.mk hy185
                    clear hy185
                    have H' := Aside0.mk H
                    clear H
                    obtain ⟨Ao16, co16, eo16⟩ := Kd.R_slice HO_3.out
                    subst eo16
                    have p180 : 0 ≤ (x4_1 : Int) := of_decide_eq_true (by first | (with_reducible assumption) | assumption)
                    have q180 : x4_1 < (l0.length : Int) := of_decide_eq_true (by first | (with_reducible assumption) | assumption)
                    obtain ⟨ad180, e180, hx180_0⟩ := Kd.at_int HR0.out x4_1 p180 q180
                    cases e180
                    replace hx180_0 := (HB.out.cell (World.block_lt_of_cell? w _ hx180_0)).trans hx180_0
                    replace p180 := eq_true p180
                    replace q180 := eq_true q180
                    go_wp2_with (first | ((with_reducible refine gate_callee (f := 26) rfl ?_); refine goesL_ (some 33) rfl rfl Try.func26 (by kernel_rfl) rfl #[.int .i64 (rd l0 x4_1), .int .i64 10] rfl (by (try simp only [List.map_toArray, List.map_cons, List.map_nil]); first | done | rfl | (simp only [List.length_drop, List.length_take]; rfl)) ?_; (with_reducible refine (letterlocklaw3_pick.calls (rd l0 x4_1) 10 t181 _ A11.out).mono ?_); rintro e w' ⟨rfl, ⟨nd, rfl⟩⟩; refine ⟨_, rfl, ?_⟩; have p182 : 0 ≤ (x4_1 : Int) := of_decide_eq_true (by first | (with_reducible assumption) | assumption); have q182 : x4_1 < (l0.length : Int) := of_decide_eq_true (by first | (with_reducible assumption) | assumption); obtain ⟨ad182, e182, hx182_0⟩ := Kd.at_int HR0.out x4_1 p182 q182; obtain rfl : ad180 = ad182 := (by injection e182); replace hx182_0 := (HB.out.cell (World.block_lt_of_cell? w _ hx182_0)).trans hx182_0; replace p182 := eq_true p182; replace q182 := eq_true q182) | ((with_reducible refine gate_callee (f := 26) rfl ?_); refine goesL_ (some 39) rfl rfl Try.func26 (by kernel_rfl) rfl #[.int .i64 (wrap64 (Int.tdiv (rd l0 x4_1) 10)), .int .i64 5] rfl (by (try simp only [List.map_toArray, List.map_cons, List.map_nil]); first | done | rfl | (simp only [List.length_drop, List.length_take]; rfl)) ?_; (with_reducible refine (letterlocklaw3_pick.calls (wrap64 (Int.tdiv (rd l0 x4_1) 10)) 5 t183 _ A12.out).mono ?_); rintro e w' ⟨rfl, ⟨nd, rfl⟩⟩; refine ⟨_, rfl, ?_⟩) | ((with_reducible refine gate_callee (f := 25) rfl ?_); refine goesL_ (some 46) rfl rfl Try.func25 (by kernel_rfl) rfl #[.int .u64 (IntKind.u64.wrap (t183))] rfl (by (try simp only [List.map_toArray, List.map_cons, List.map_nil]); first | done | rfl | (simp only [List.length_drop, List.length_take]; rfl)) ?_; (with_reducible refine (letterlockref3_OfAtom.calls kj5 (IntKind.u64.wrap (t183)) t184 _ A14.out).mono ?_); rintro e w17 ⟨rfl, hb⟩; refine ⟨_, rfl, ?_⟩; have n0_ := Aside0.mk (Kd.R_below (by (with_reducible repeat (first | apply Kd.R_alloc | apply Kd.R_drewN | apply Kd.R_drew)); exact HO_3.out) hb); have n1_ := Aside0.mk (below_step (by repeat (first | (with_reducible first | exact HB.out | apply below_alloc | apply pw_below_drewN | apply below_drew1) | exact HB.out)) hb); clear HO_3; clear HB; have HO_3 := n0_; have HB := n1_; clear n0_ n1_; (try clear hb); (try clear hb2); (try clear hk); (try clear hi)) | ((with_reducible refine gate_builtin (b := .append) (xs := #[.tmp 43, .tmp 47]) rfl ?_); at_builtin; refine Kd.R_append Kd.string (w0 := w) w.heap.size rfl (.tmp 43) (.tmp 47) 36 9 (.string ⟨#[]⟩) 16 rfl Try.underlying36 info9 rfl (by decide) (by omega) (.slice Ao16 x3_1.length co16) x3_1 t184 [.string t184] (fun _ => True) (fun _ => False) rfl rfl ?aP (fun _ hk => hk.elim) ?aF ?aO ?aB ?aS ?aL ?_; (case aP => exact rfl); (case aB => exact (by repeat (first | (with_reducible first | exact HB.out | apply below_alloc | apply pw_below_drewN | apply below_drew1) | exact HB.out))); (case aF => exact (fun _ _ => trivial)); (case aO => exact (by (with_reducible repeat (first | apply Kd.R_alloc | apply Kd.R_drewN | apply Kd.R_drew)); exact HO_3.out)); (case aS => exact (below_size (by repeat (first | (with_reducible first | exact HB.out | apply below_alloc | apply pw_below_drewN | apply below_drew1) | exact HB.out)))); (case aL => have := LMc15.out; omega); intro v186 w18 ho hb hg hat; rw [← Ny185.out] at ho; have n0_ := Aside0.mk (hb); have n1_ := Aside0.mk (ho); clear HB; clear HO_3; have HB := n0_; have HO187 := n1_; clear n0_ n1_; clear ho hb hg hat))
                    go_roundg kj5
                    case measure => have := HK1.out; have := HJ5.out; omega
                    case rel => exact ⟨(y185), (wrap64 (x4_1 + 1)), (by first | rfl | (simp; done) | (simp [*]; done) | (simp; exact isEmpty_ne _)), H', ⟨by have := HK1.out; have := HJ5.out; omega⟩, ⟨by (with_reducible repeat (first | apply Kd.R_alloc | apply Kd.R_drewN | apply Kd.R_drew)); exact HO187.out⟩, ⟨by repeat (first | (with_reducible first | exact HB.out | apply below_alloc | apply pw_below_drewN | apply below_drew1) | exact HB.out)⟩⟩
                  · rw [if_neg c15] at H
                    exact absurd H (by simp)
                · rw [if_neg c13] at H
                  have c13b0 : decide (t181 < 3) = false := decide_eq_false c13
                  clear c13
                  by_cases c19 : t181 = 3
                  · rw [if_pos c19] at H
                    have c19b0 : (t181 == 3) = true := beq_iff_eq.mpr c19
                    have c19b1 : (t181 != 3) = false := bne_eq_false_iff_eq.mpr c19
                    clear c19
                    by_cases c20 : 0 ≤ t183
                    · rw [if_pos c20] at H
                      have c20b0 := eq_true c20
                      have c20b1 : decide (0 ≤ t183) = true := decide_eq_true c20
                      clear c20
                      by_cases c21 : t183 ≤ 5
                      · rw [if_pos c21] at H
                        have c21b0 := eq_true c21
                        have c21b1 : decide (t183 ≤ 5) = true := decide_eq_true c21
                        clear c21
                        replace H := Option.bind_eq_some_iff.mp H
                        obtain ⟨⟨t188, t189⟩, A220, H⟩ := H
                        replace H : (if x3_1.length < 8796093022208 then (letterlocklaw3_grown.l0 kj5 l0 (x3_1 ++ [t188]) (wrap64 (x4_1 + 1))) else (none)) = some r := H
                        have A22 := Aside0.mk A220
                        clear A220
                        by_cases c23 : x3_1.length < 8796093022208
                        · rw [if_pos c23] at H
                          have LMc23 := Aside0.mk c23
                          clear c23
                          obtain ⟨y190, hy190⟩ : ∃ y_ : List ByteArray, y_ = (x3_1 ++ [t188]) := ⟨_, rfl⟩
                          replace H : (letterlocklaw3_grown.l0 kj5 l0 y190 (wrap64 (x4_1 + 1))) = some r := by first | (rw [hy190]; with_reducible exact H) | (have H2_ := (Option.bind_some _ _).symm.trans H; rw [hy190]; with_reducible exact H2_) | (have H2_ := (Option.bind_some _ _).symm.trans H; with_reducible exact H2_) | with_reducible exact H | (rw [hy190]; exact H) | exact H
                          have Ny190 := Aside0.mk hy190
                          clear hy190
                          have H' := Aside0.mk H
                          clear H
                          obtain ⟨Ao24, co24, eo24⟩ := Kd.R_slice HO_3.out
                          subst eo24
                          have p180 : 0 ≤ (x4_1 : Int) := of_decide_eq_true (by first | (with_reducible assumption) | assumption)
                          have q180 : x4_1 < (l0.length : Int) := of_decide_eq_true (by first | (with_reducible assumption) | assumption)
                          obtain ⟨ad180, e180, hx180_0⟩ := Kd.at_int HR0.out x4_1 p180 q180
                          cases e180
                          replace hx180_0 := (HB.out.cell (World.block_lt_of_cell? w _ hx180_0)).trans hx180_0
                          replace p180 := eq_true p180
                          replace q180 := eq_true q180
                          go_wp2_with (first | ((with_reducible refine gate_callee (f := 26) rfl ?_); refine goesL_ (some 33) rfl rfl Try.func26 (by kernel_rfl) rfl #[.int .i64 (rd l0 x4_1), .int .i64 10] rfl (by (try simp only [List.map_toArray, List.map_cons, List.map_nil]); first | done | rfl | (simp only [List.length_drop, List.length_take]; rfl)) ?_; (with_reducible refine (letterlocklaw3_pick.calls (rd l0 x4_1) 10 t181 _ A11.out).mono ?_); rintro e w' ⟨rfl, ⟨nd, rfl⟩⟩; refine ⟨_, rfl, ?_⟩; have p182 : 0 ≤ (x4_1 : Int) := of_decide_eq_true (by first | (with_reducible assumption) | assumption); have q182 : x4_1 < (l0.length : Int) := of_decide_eq_true (by first | (with_reducible assumption) | assumption); obtain ⟨ad182, e182, hx182_0⟩ := Kd.at_int HR0.out x4_1 p182 q182; obtain rfl : ad180 = ad182 := (by injection e182); replace hx182_0 := (HB.out.cell (World.block_lt_of_cell? w _ hx182_0)).trans hx182_0; replace p182 := eq_true p182; replace q182 := eq_true q182) | ((with_reducible refine gate_callee (f := 26) rfl ?_); refine goesL_ (some 39) rfl rfl Try.func26 (by kernel_rfl) rfl #[.int .i64 (wrap64 (Int.tdiv (rd l0 x4_1) 10)), .int .i64 5] rfl (by (try simp only [List.map_toArray, List.map_cons, List.map_nil]); first | done | rfl | (simp only [List.length_drop, List.length_take]; rfl)) ?_; (with_reducible refine (letterlocklaw3_pick.calls (wrap64 (Int.tdiv (rd l0 x4_1) 10)) 5 t183 _ A12.out).mono ?_); rintro e w' ⟨rfl, ⟨nd, rfl⟩⟩; refine ⟨_, rfl, ?_⟩) | ((with_reducible refine gate_callee (f := 33) rfl ?_); refine goesL_ (some 55) rfl rfl Try.func33 (by kernel_rfl) rfl #[.string ((⟨#[97, 98, 99, 100, 101]⟩ : ByteArray).extract 0 (t183 : Int).toNat)] rfl (by (try simp only [List.map_toArray, List.map_cons, List.map_nil]); first | done | rfl | (simp only [List.length_drop, List.length_take]; rfl)) ?_; (with_reducible refine (letterlockref3_OfText.calls kj5 ((⟨#[97, 98, 99, 100, 101]⟩ : ByteArray).extract 0 (t183 : Int).toNat) t188 t189 _ A22.out).mono ?_); rintro e w25 ⟨rfl, hb⟩; refine ⟨_, rfl, ?_⟩; have n0_ := Aside0.mk (Kd.R_below (by (with_reducible repeat (first | apply Kd.R_alloc | apply Kd.R_drewN | apply Kd.R_drew)); exact HO_3.out) hb); have n1_ := Aside0.mk (below_step (by repeat (first | (with_reducible first | exact HB.out | apply below_alloc | apply pw_below_drewN | apply below_drew1) | exact HB.out)) hb); clear HO_3; clear HB; have HO_3 := n0_; have HB := n1_; clear n0_ n1_; (try clear hb); (try clear hb2); (try clear hk); (try clear hi)) | ((with_reducible refine gate_builtin (b := .append) (xs := #[.tmp 58, .tmp 60]) rfl ?_); at_builtin; refine Kd.R_append Kd.string (w0 := w) w.heap.size rfl (.tmp 58) (.tmp 60) 36 9 (.string ⟨#[]⟩) 16 rfl Try.underlying36 info9 rfl (by decide) (by omega) (.slice Ao24 x3_1.length co24) x3_1 t188 [.string t188] (fun _ => True) (fun _ => False) rfl rfl ?aP (fun _ hk => hk.elim) ?aF ?aO ?aB ?aS ?aL ?_; (case aP => exact rfl); (case aB => exact (by repeat (first | (with_reducible first | exact HB.out | apply below_alloc | apply pw_below_drewN | apply below_drew1) | exact HB.out))); (case aF => exact (fun _ _ => trivial)); (case aO => exact (by (with_reducible repeat (first | apply Kd.R_alloc | apply Kd.R_drewN | apply Kd.R_drew)); exact HO_3.out)); (case aS => exact (below_size (by repeat (first | (with_reducible first | exact HB.out | apply below_alloc | apply pw_below_drewN | apply below_drew1) | exact HB.out)))); (case aL => have := LMc23.out; omega); intro v191 w26 ho hb hg hat; rw [← Ny190.out] at ho; have n0_ := Aside0.mk (hb); have n1_ := Aside0.mk (ho); clear HB; clear HO_3; have HB := n0_; have HO192 := n1_; clear n0_ n1_; clear ho hb hg hat))
                          go_roundg kj5
                          case measure => have := HK1.out; have := HJ5.out; omega
                          case rel => exact ⟨(y190), (wrap64 (x4_1 + 1)), (by first | rfl | (simp; done) | (simp [*]; done) | (simp; exact isEmpty_ne _)), H', ⟨by have := HK1.out; have := HJ5.out; omega⟩, ⟨by (with_reducible repeat (first | apply Kd.R_alloc | apply Kd.R_drewN | apply Kd.R_drew)); exact HO192.out⟩, ⟨by repeat (first | (with_reducible first | exact HB.out | apply below_alloc | apply pw_below_drewN | apply below_drew1) | exact HB.out)⟩⟩
                        · rw [if_neg c23] at H
                          exact absurd H (by simp)
                      · rw [if_neg c21] at H
                        exact absurd H (by simp)
                    · rw [if_neg c20] at H
                      exact absurd H (by simp)
                  · rw [if_neg c19] at H
                    have c19b0 : (t181 == 3) = false := beq_eq_false_iff_ne.mpr c19
                    have c19b1 : (t181 != 3) = true := bne_iff_ne.mpr c19
                    by_cases c27 : t181 = 4
                    · rw [if_pos c27] at H
                      have c27b0 : (t181 == 4) = true := beq_iff_eq.mpr c27
                      have c27b1 : (t181 != 4) = false := bne_eq_false_iff_eq.mpr c27
                      clear c27
                      obtain ⟨ji28, hji28⟩ : ∃ j_ : Int, (wrap64 ((x3_1.length : Int) - 1)) = j_ := ⟨_, rfl⟩
                      replace H : (if 0 ≤ (ji28) then (if (ji28) < (x3_1.length : Int) then ((letterlockref3_OfHash.f kj5 (rdOf ByteArray.empty x3_1 (ji28))).bind fun bt194 => (if bt194.2 = 0 then (letterlocklaw3_grown.l0 kj5 l0 (x3_1.set ((ji28) : Int).toNat bt194.1) (wrap64 (x4_1 + 1))) else (letterlocklaw3_grown.l0 kj5 l0 x3_1 (wrap64 (x4_1 + 1))))) else (none)) else (none)) = some r := by first | (rw [hji28] at H; exact H) | (simp only [hji28] at H ⊢; exact H)
                      (try rw [hji28] at A11)
                      (try rw [hji28] at A12)
                      have hji28w : (IntKind.i64.wrap ((x3_1.length : Int) - 1)) = ji28 := (i64_w _).trans hji28
                      by_cases c29 : 0 ≤ (ji28)
                      · rw [if_pos c29] at H
                        have c29b0 : decide (0 ≤ (ji28)) = true := decide_eq_true c29
                        clear c29
                        by_cases c30 : (ji28) < (x3_1.length : Int)
                        · rw [if_pos c30] at H
                          have c30b0 : decide ((ji28) < (x3_1.length : Int)) = true := decide_eq_true c30
                          clear c30
                          replace H := Option.bind_eq_some_iff.mp H
                          obtain ⟨⟨t194, t195⟩, A310, H⟩ := H
                          replace H : (if t195 = 0 then (letterlocklaw3_grown.l0 kj5 l0 (x3_1.set ((ji28) : Int).toNat t194) (wrap64 (x4_1 + 1))) else (letterlocklaw3_grown.l0 kj5 l0 x3_1 (wrap64 (x4_1 + 1)))) = some r := H
                          have A31 := Aside0.mk A310
                          clear A310
                          by_cases c32 : t195 = 0
                          · rw [if_pos c32] at H
                            have c32b0 : (t195 == 0) = true := beq_iff_eq.mpr c32
                            have c32b1 : (t195 != 0) = false := bne_eq_false_iff_eq.mpr c32
                            clear c32
                            obtain ⟨y196, hy196⟩ : ∃ y_ : List ByteArray, y_ = (x3_1.set ((ji28) : Int).toNat t194) := ⟨_, rfl⟩
                            replace H : (letterlocklaw3_grown.l0 kj5 l0 y196 (wrap64 (x4_1 + 1))) = some r := by first | (rw [hy196]; with_reducible exact H) | (have H2_ := (Option.bind_some _ _).symm.trans H; rw [hy196]; with_reducible exact H2_) | (have H2_ := (Option.bind_some _ _).symm.trans H; with_reducible exact H2_) | with_reducible exact H | (rw [hy196]; exact H) | exact H
                            have Ny196 := Aside0.mk hy196
                            clear hy196
                            have H' := Aside0.mk H
                            clear H
                            obtain ⟨Ao34, co34, eo34⟩ := Kd.R_slice HO_3.out
                            subst eo34
                            have p180 : 0 ≤ (x4_1 : Int) := of_decide_eq_true (by first | (with_reducible assumption) | assumption)
                            have q180 : x4_1 < (l0.length : Int) := of_decide_eq_true (by first | (with_reducible assumption) | assumption)
                            obtain ⟨ad180, e180, hx180_0⟩ := Kd.at_int HR0.out x4_1 p180 q180
                            cases e180
                            replace hx180_0 := (HB.out.cell (World.block_lt_of_cell? w _ hx180_0)).trans hx180_0
                            replace p180 := eq_true p180
                            replace q180 := eq_true q180
                            go_wp2_with (first | ((with_reducible refine gate_callee (f := 26) rfl ?_); refine goesL_ (some 33) rfl rfl Try.func26 (by kernel_rfl) rfl #[.int .i64 (rd l0 x4_1), .int .i64 10] rfl (by (try simp only [List.map_toArray, List.map_cons, List.map_nil]); first | done | rfl | (simp only [List.length_drop, List.length_take]; rfl)) ?_; (with_reducible refine (letterlocklaw3_pick.calls (rd l0 x4_1) 10 t181 _ A11.out).mono ?_); rintro e w' ⟨rfl, ⟨nd, rfl⟩⟩; refine ⟨_, rfl, ?_⟩; (try (rw [drewN_self wc]; generalize hq_ : World.drewN wc _ = wc; have n0_ : Aside0 (Kd.R Kd.string 9 wc w.heap.size (fun _ => True) (.slice Ao34 x3_1.length co34) x3_1) := ⟨by rw [← hq_]; exact (by (with_reducible repeat (first | apply Kd.R_alloc | apply Kd.R_drewN | apply Kd.R_drew)); exact HO_3.out)⟩; have n1_ : Aside0 (Below w.heap.size w wc) := ⟨by rw [← hq_]; exact (by repeat (first | (with_reducible first | exact HB.out | apply below_alloc | apply pw_below_drewN | apply below_drew1) | exact HB.out))⟩; clear HO_3 HB hq_; have HO_3 := n0_; have HB := n1_; clear n0_ n1_)); have p182 : 0 ≤ (x4_1 : Int) := of_decide_eq_true (by first | (with_reducible assumption) | assumption); have q182 : x4_1 < (l0.length : Int) := of_decide_eq_true (by first | (with_reducible assumption) | assumption); obtain ⟨ad182, e182, hx182_0⟩ := Kd.at_int HR0.out x4_1 p182 q182; obtain rfl : ad180 = ad182 := (by injection e182); replace hx182_0 := (HB.out.cell (World.block_lt_of_cell? w _ hx182_0)).trans hx182_0; replace p182 := eq_true p182; replace q182 := eq_true q182) | ((with_reducible refine gate_callee (f := 26) rfl ?_); refine goesL_ (some 39) rfl rfl Try.func26 (by kernel_rfl) rfl #[.int .i64 (wrap64 (Int.tdiv (rd l0 x4_1) 10)), .int .i64 5] rfl (by (try simp only [List.map_toArray, List.map_cons, List.map_nil]); first | done | rfl | (simp only [List.length_drop, List.length_take]; rfl)) ?_; (with_reducible refine (letterlocklaw3_pick.calls (wrap64 (Int.tdiv (rd l0 x4_1) 10)) 5 t183 _ A12.out).mono ?_); rintro e w' ⟨rfl, ⟨nd, rfl⟩⟩; refine ⟨_, rfl, ?_⟩; (try (rw [drewN_self wc]; generalize hq_ : World.drewN wc _ = wc; have n0_ : Aside0 (Kd.R Kd.string 9 wc w.heap.size (fun _ => True) (.slice Ao34 x3_1.length co34) x3_1) := ⟨by rw [← hq_]; exact (by (with_reducible repeat (first | apply Kd.R_alloc | apply Kd.R_drewN | apply Kd.R_drew)); exact HO_3.out)⟩; have n1_ : Aside0 (Below w.heap.size w wc) := ⟨by rw [← hq_]; exact (by repeat (first | (with_reducible first | exact HB.out | apply below_alloc | apply pw_below_drewN | apply below_drew1) | exact HB.out))⟩; clear HO_3 HB hq_; have HO_3 := n0_; have HB := n1_; clear n0_ n1_)); have p193 : 0 ≤ ((ji28) : Int) := of_decide_eq_true (by first | (with_reducible assumption) | assumption); have q193 : (ji28) < (x3_1.length : Int) := of_decide_eq_true (by first | (with_reducible assumption) | assumption); obtain ⟨ad193, e193, hx193_0⟩ := Kd.at_string (Kd.R_reads' HO_3.out).2.2 (ji28) p193 q193; cases e193; replace p193 := eq_true p193; replace q193 := eq_true q193) | ((with_reducible refine gate_callee (f := 34) rfl ?_); refine goesL_ (some 71) rfl rfl Try.func34 (by kernel_rfl) rfl #[.string (rdOf ByteArray.empty x3_1 (ji28))] rfl (by (try simp only [List.map_toArray, List.map_cons, List.map_nil]); first | done | (simp only [hji28]; rfl) | rfl | (simp only [List.length_drop, List.length_take]; rfl)) ?_; (with_reducible refine (letterlockref3_OfHash.calls kj5 (rdOf ByteArray.empty x3_1 (ji28)) t194 t195 _ A31.out).mono ?_); rintro e w35 ⟨rfl, hb⟩; refine ⟨_, rfl, ?_⟩; have n0_ := Aside0.mk (Kd.R_below (by (with_reducible repeat (first | apply Kd.R_alloc | apply Kd.R_drewN | apply Kd.R_drew)); exact HO_3.out) hb); have n1_ := Aside0.mk (below_step (by repeat (first | (with_reducible first | exact HB.out | apply below_alloc | apply pw_below_drewN | apply below_drew1) | exact HB.out)) hb); clear HO_3; clear HB; have HO_3 := n0_; have HB := n1_; clear n0_ n1_; (try clear hb); (try clear hb2); (try clear hk); (try clear hi); have p33 : 0 ≤ ((ji28) : Int) := of_decide_eq_true (by first | (with_reducible assumption) | assumption); have q33 : ((ji28) : Int) < ((x3_1.length : Int) : Int) := of_decide_eq_true (by first | (with_reducible assumption) | assumption); obtain ⟨go33, co33, eo33, gb33, gl33, cl33, HG33⟩ := Kd.R_form HO_3.out (by omega); (first | cases eo33 | (injection eo33 with ea_ en_ ec_; (first | subst ea_ | (injection ea_ with ea_; subst ea_)); subst ec_; clear en_)); have GB33 := Aside0.mk gb33; have GG33 := Aside0.mk HG33; clear gb33 gl33 HG33; (first | simp only [add_plain] at hx193_0 | skip); obtain ⟨hx33_0, hf33_0⟩ := Kd.R_celln (⟨#[]⟩ : ByteArray) HO_3.out ((ji28) : Int) p33 q33; replace p33 := eq_true p33; replace q33 := eq_true q33; obtain ⟨hy36_, hz36_⟩ := Kd.R_celln (⟨#[]⟩ : ByteArray) HO_3.out ((ji28) : Int) (of_decide_eq_true (by first | (with_reducible assumption) | assumption)) (of_decide_eq_true (by first | (with_reducible assumption) | assumption)); have HP36 := Kd.R_putg HO_3.out ((ji28) : Int) t194) | ((with_reducible refine gate_store (t := 9) (p := 80) rfl ?_); refine store_event (t := 9) (p := 80) (v := ?vo_w37) (w1 := (w35.setCell ⟨go33, ((ji28) : Int).toNat, none⟩ (.string t194))) ?hg ?ho ?hn ?hr ?_; (case ho => rfl); (case hg => rfl); (case hn => rfl); (case hr => first | (go_simp; done) | (go_simp; rfl)); intro w37 hw; have hg : w35.grownBy w37 (some go33) := (by rw [hw]; exact HP36.2); have hp_ : Kd.R Kd.string 9 w37 w.heap.size (fun _ => True) (.slice (some ⟨go33, 0, none⟩) x3_1.length co34) y196 := (by rw [hw, Ny196.out]; exact HP36.1); clear HP36; have n0_ := Aside0.mk (hp_); have n1_ := Aside0.mk ((by rw [hw]; exact below_set (HB.out) GB33.out : Below w.heap.size w w37)); clear HO_3; clear HB; have HO_3 := n0_; have HB := n1_; clear n0_ n1_; clear hg hw hp_))
                            go_roundg kj5
                            case measure => have := HK1.out; have := HJ5.out; omega
                            case rel => exact ⟨(y196), (wrap64 (x4_1 + 1)), (by first | rfl | (simp; done) | (simp [*]; done) | (simp; exact isEmpty_ne _)), H', ⟨by have := HK1.out; have := HJ5.out; omega⟩, ⟨by (with_reducible repeat (first | apply Kd.R_alloc | apply Kd.R_drewN | apply Kd.R_drew)); exact HO_3.out⟩, ⟨by repeat (first | (with_reducible first | exact HB.out | apply below_alloc | apply pw_below_drewN | apply below_drew1) | exact HB.out)⟩⟩
                          · rw [if_neg c32] at H
                            have c32b0 : (t195 == 0) = false := beq_eq_false_iff_ne.mpr c32
                            have c32b1 : (t195 != 0) = true := bne_iff_ne.mpr c32
                            have H' := Aside0.mk H
                            clear H
                            obtain ⟨Ao38, co38, eo38⟩ := Kd.R_slice HO_3.out
                            subst eo38
                            have p180 : 0 ≤ (x4_1 : Int) := of_decide_eq_true (by first | (with_reducible assumption) | assumption)
                            have q180 : x4_1 < (l0.length : Int) := of_decide_eq_true (by first | (with_reducible assumption) | assumption)
                            obtain ⟨ad180, e180, hx180_0⟩ := Kd.at_int HR0.out x4_1 p180 q180
                            cases e180
                            replace hx180_0 := (HB.out.cell (World.block_lt_of_cell? w _ hx180_0)).trans hx180_0
                            replace p180 := eq_true p180
                            replace q180 := eq_true q180
                            go_wp2_with (first | ((with_reducible refine gate_callee (f := 26) rfl ?_); refine goesL_ (some 33) rfl rfl Try.func26 (by kernel_rfl) rfl #[.int .i64 (rd l0 x4_1), .int .i64 10] rfl (by (try simp only [List.map_toArray, List.map_cons, List.map_nil]); first | done | rfl | (simp only [List.length_drop, List.length_take]; rfl)) ?_; (with_reducible refine (letterlocklaw3_pick.calls (rd l0 x4_1) 10 t181 _ A11.out).mono ?_); rintro e w' ⟨rfl, ⟨nd, rfl⟩⟩; refine ⟨_, rfl, ?_⟩; have p182 : 0 ≤ (x4_1 : Int) := of_decide_eq_true (by first | (with_reducible assumption) | assumption); have q182 : x4_1 < (l0.length : Int) := of_decide_eq_true (by first | (with_reducible assumption) | assumption); obtain ⟨ad182, e182, hx182_0⟩ := Kd.at_int HR0.out x4_1 p182 q182; obtain rfl : ad180 = ad182 := (by injection e182); replace hx182_0 := (HB.out.cell (World.block_lt_of_cell? w _ hx182_0)).trans hx182_0; replace p182 := eq_true p182; replace q182 := eq_true q182) | ((with_reducible refine gate_callee (f := 26) rfl ?_); refine goesL_ (some 39) rfl rfl Try.func26 (by kernel_rfl) rfl #[.int .i64 (wrap64 (Int.tdiv (rd l0 x4_1) 10)), .int .i64 5] rfl (by (try simp only [List.map_toArray, List.map_cons, List.map_nil]); first | done | rfl | (simp only [List.length_drop, List.length_take]; rfl)) ?_; (with_reducible refine (letterlocklaw3_pick.calls (wrap64 (Int.tdiv (rd l0 x4_1) 10)) 5 t183 _ A12.out).mono ?_); rintro e w' ⟨rfl, ⟨nd, rfl⟩⟩; refine ⟨_, rfl, ?_⟩; have p193 : 0 ≤ ((ji28) : Int) := of_decide_eq_true (by first | (with_reducible assumption) | assumption); have q193 : (ji28) < (x3_1.length : Int) := of_decide_eq_true (by first | (with_reducible assumption) | assumption); obtain ⟨ad193, e193, hx193_0⟩ := Kd.at_string (Kd.R_reads' HO_3.out).2.2 (ji28) p193 q193; cases e193; replace p193 := eq_true p193; replace q193 := eq_true q193) | ((with_reducible refine gate_callee (f := 34) rfl ?_); refine goesL_ (some 71) rfl rfl Try.func34 (by kernel_rfl) rfl #[.string (rdOf ByteArray.empty x3_1 (ji28))] rfl (by (try simp only [List.map_toArray, List.map_cons, List.map_nil]); first | done | (simp only [hji28]; rfl) | rfl | (simp only [List.length_drop, List.length_take]; rfl)) ?_; (with_reducible refine (letterlockref3_OfHash.calls kj5 (rdOf ByteArray.empty x3_1 (ji28)) t194 t195 _ A31.out).mono ?_); rintro e w39 ⟨rfl, hb⟩; refine ⟨_, rfl, ?_⟩; have n0_ := Aside0.mk (Kd.R_below (by (with_reducible repeat (first | apply Kd.R_alloc | apply Kd.R_drewN | apply Kd.R_drew)); exact HO_3.out) hb); have n1_ := Aside0.mk (below_step (by repeat (first | (with_reducible first | exact HB.out | apply below_alloc | apply pw_below_drewN | apply below_drew1) | exact HB.out)) hb); clear HO_3; clear HB; have HO_3 := n0_; have HB := n1_; clear n0_ n1_; (try clear hb); (try clear hb2); (try clear hk); (try clear hi)))
                            go_roundg kj5
                            case measure => have := HK1.out; have := HJ5.out; omega
                            case rel => exact ⟨(x3_1), (wrap64 (x4_1 + 1)), (by first | rfl | (simp; done) | (simp [*]; done) | (simp; exact isEmpty_ne _)), H', ⟨by have := HK1.out; have := HJ5.out; omega⟩, ⟨by (with_reducible repeat (first | apply Kd.R_alloc | apply Kd.R_drewN | apply Kd.R_drew)); exact HO_3.out⟩, ⟨by repeat (first | (with_reducible first | exact HB.out | apply below_alloc | apply pw_below_drewN | apply below_drew1) | exact HB.out)⟩⟩
                        · rw [if_neg c30] at H
                          exact absurd H (by simp)
                      · rw [if_neg c29] at H
                        exact absurd H (by simp)
                    · rw [if_neg c27] at H
                      have c27b0 : (t181 == 4) = false := beq_eq_false_iff_ne.mpr c27
                      have c27b1 : (t181 != 4) = true := bne_iff_ne.mpr c27
                      by_cases c40 : t181 = 5
                      · rw [if_pos c40] at H
                        have c40b0 : (t181 == 5) = true := beq_iff_eq.mpr c40
                        have c40b1 : (t181 != 5) = false := bne_eq_false_iff_eq.mpr c40
                        clear c40
                        obtain ⟨ji41, hji41⟩ : ∃ j_ : Int, (wrap64 ((x3_1.length : Int) - 1)) = j_ := ⟨_, rfl⟩
                        replace H : (if 0 ≤ (ji41) then (if (ji41) < (x3_1.length : Int) then ((letterlockref3_OfPublic.f kj5 (rdOf ByteArray.empty x3_1 (ji41))).bind fun bt198 => (if bt198.2 = 0 then (letterlocklaw3_grown.l0 kj5 l0 (x3_1.set ((ji41) : Int).toNat bt198.1) (wrap64 (x4_1 + 1))) else (letterlocklaw3_grown.l0 kj5 l0 x3_1 (wrap64 (x4_1 + 1))))) else (none)) else (none)) = some r := by first | (rw [hji41] at H; exact H) | (simp only [hji41] at H ⊢; exact H)
                        (try rw [hji41] at A11)
                        (try rw [hji41] at A12)
                        have hji41w : (IntKind.i64.wrap ((x3_1.length : Int) - 1)) = ji41 := (i64_w _).trans hji41
                        by_cases c42 : 0 ≤ (ji41)
                        · rw [if_pos c42] at H
                          have c42b0 : decide (0 ≤ (ji41)) = true := decide_eq_true c42
                          clear c42
                          by_cases c43 : (ji41) < (x3_1.length : Int)
                          · rw [if_pos c43] at H
                            have c43b0 : decide ((ji41) < (x3_1.length : Int)) = true := decide_eq_true c43
                            clear c43
                            replace H := Option.bind_eq_some_iff.mp H
                            obtain ⟨⟨t198, t199⟩, A440, H⟩ := H
                            replace H : (if t199 = 0 then (letterlocklaw3_grown.l0 kj5 l0 (x3_1.set ((ji41) : Int).toNat t198) (wrap64 (x4_1 + 1))) else (letterlocklaw3_grown.l0 kj5 l0 x3_1 (wrap64 (x4_1 + 1)))) = some r := H
                            have A44 := Aside0.mk A440
                            clear A440
                            by_cases c45 : t199 = 0
                            · rw [if_pos c45] at H
                              have c45b0 : (t199 == 0) = true := beq_iff_eq.mpr c45
                              have c45b1 : (t199 != 0) = false := bne_eq_false_iff_eq.mpr c45
                              clear c45
                              obtain ⟨y200, hy200⟩ : ∃ y_ : List ByteArray, y_ = (x3_1.set ((ji41) : Int).toNat t198) := ⟨_, rfl⟩
                              replace H : (letterlocklaw3_grown.l0 kj5 l0 y200 (wrap64 (x4_1 + 1))) = some r := by first | (rw [hy200]; with_reducible exact H) | (have H2_ := (Option.bind_some _ _).symm.trans H; rw [hy200]; with_reducible exact H2_) | (have H2_ := (Option.bind_some _ _).symm.trans H; with_reducible exact H2_) | with_reducible exact H | (rw [hy200]; exact H) | exact H
                              have Ny200 := Aside0.mk hy200
                              clear hy200
                              have H' := Aside0.mk H
                              clear H
                              obtain ⟨Ao47, co47, eo47⟩ := Kd.R_slice HO_3.out
                              subst eo47
                              have p180 : 0 ≤ (x4_1 : Int) := of_decide_eq_true (by first | (with_reducible assumption) | assumption)
                              have q180 : x4_1 < (l0.length : Int) := of_decide_eq_true (by first | (with_reducible assumption) | assumption)
                              obtain ⟨ad180, e180, hx180_0⟩ := Kd.at_int HR0.out x4_1 p180 q180
                              cases e180
                              replace hx180_0 := (HB.out.cell (World.block_lt_of_cell? w _ hx180_0)).trans hx180_0
                              replace p180 := eq_true p180
                              replace q180 := eq_true q180
                              go_wp2_with (first | ((with_reducible refine gate_callee (f := 26) rfl ?_); refine goesL_ (some 33) rfl rfl Try.func26 (by kernel_rfl) rfl #[.int .i64 (rd l0 x4_1), .int .i64 10] rfl (by (try simp only [List.map_toArray, List.map_cons, List.map_nil]); first | done | rfl | (simp only [List.length_drop, List.length_take]; rfl)) ?_; (with_reducible refine (letterlocklaw3_pick.calls (rd l0 x4_1) 10 t181 _ A11.out).mono ?_); rintro e w' ⟨rfl, ⟨nd, rfl⟩⟩; refine ⟨_, rfl, ?_⟩; (try (rw [drewN_self wc]; generalize hq_ : World.drewN wc _ = wc; have n0_ : Aside0 (Kd.R Kd.string 9 wc w.heap.size (fun _ => True) (.slice Ao47 x3_1.length co47) x3_1) := ⟨by rw [← hq_]; exact (by (with_reducible repeat (first | apply Kd.R_alloc | apply Kd.R_drewN | apply Kd.R_drew)); exact HO_3.out)⟩; have n1_ : Aside0 (Below w.heap.size w wc) := ⟨by rw [← hq_]; exact (by repeat (first | (with_reducible first | exact HB.out | apply below_alloc | apply pw_below_drewN | apply below_drew1) | exact HB.out))⟩; clear HO_3 HB hq_; have HO_3 := n0_; have HB := n1_; clear n0_ n1_)); have p182 : 0 ≤ (x4_1 : Int) := of_decide_eq_true (by first | (with_reducible assumption) | assumption); have q182 : x4_1 < (l0.length : Int) := of_decide_eq_true (by first | (with_reducible assumption) | assumption); obtain ⟨ad182, e182, hx182_0⟩ := Kd.at_int HR0.out x4_1 p182 q182; obtain rfl : ad180 = ad182 := (by injection e182); replace hx182_0 := (HB.out.cell (World.block_lt_of_cell? w _ hx182_0)).trans hx182_0; replace p182 := eq_true p182; replace q182 := eq_true q182) | ((with_reducible refine gate_callee (f := 26) rfl ?_); refine goesL_ (some 39) rfl rfl Try.func26 (by kernel_rfl) rfl #[.int .i64 (wrap64 (Int.tdiv (rd l0 x4_1) 10)), .int .i64 5] rfl (by (try simp only [List.map_toArray, List.map_cons, List.map_nil]); first | done | rfl | (simp only [List.length_drop, List.length_take]; rfl)) ?_; (with_reducible refine (letterlocklaw3_pick.calls (wrap64 (Int.tdiv (rd l0 x4_1) 10)) 5 t183 _ A12.out).mono ?_); rintro e w' ⟨rfl, ⟨nd, rfl⟩⟩; refine ⟨_, rfl, ?_⟩; (try (rw [drewN_self wc]; generalize hq_ : World.drewN wc _ = wc; have n0_ : Aside0 (Kd.R Kd.string 9 wc w.heap.size (fun _ => True) (.slice Ao47 x3_1.length co47) x3_1) := ⟨by rw [← hq_]; exact (by (with_reducible repeat (first | apply Kd.R_alloc | apply Kd.R_drewN | apply Kd.R_drew)); exact HO_3.out)⟩; have n1_ : Aside0 (Below w.heap.size w wc) := ⟨by rw [← hq_]; exact (by repeat (first | (with_reducible first | exact HB.out | apply below_alloc | apply pw_below_drewN | apply below_drew1) | exact HB.out))⟩; clear HO_3 HB hq_; have HO_3 := n0_; have HB := n1_; clear n0_ n1_)); have p197 : 0 ≤ ((ji41) : Int) := of_decide_eq_true (by first | (with_reducible assumption) | assumption); have q197 : (ji41) < (x3_1.length : Int) := of_decide_eq_true (by first | (with_reducible assumption) | assumption); obtain ⟨ad197, e197, hx197_0⟩ := Kd.at_string (Kd.R_reads' HO_3.out).2.2 (ji41) p197 q197; cases e197; replace p197 := eq_true p197; replace q197 := eq_true q197) | ((with_reducible refine gate_callee (f := 35) rfl ?_); refine goesL_ (some 90) rfl rfl Try.func35 (by kernel_rfl) rfl #[.string (rdOf ByteArray.empty x3_1 (ji41))] rfl (by (try simp only [List.map_toArray, List.map_cons, List.map_nil]); first | done | (simp only [hji41]; rfl) | rfl | (simp only [List.length_drop, List.length_take]; rfl)) ?_; (with_reducible refine (letterlockref3_OfPublic.calls kj5 (rdOf ByteArray.empty x3_1 (ji41)) t198 t199 _ A44.out).mono ?_); rintro e w48 ⟨rfl, hb⟩; refine ⟨_, rfl, ?_⟩; have n0_ := Aside0.mk (Kd.R_below (by (with_reducible repeat (first | apply Kd.R_alloc | apply Kd.R_drewN | apply Kd.R_drew)); exact HO_3.out) hb); have n1_ := Aside0.mk (below_step (by repeat (first | (with_reducible first | exact HB.out | apply below_alloc | apply pw_below_drewN | apply below_drew1) | exact HB.out)) hb); clear HO_3; clear HB; have HO_3 := n0_; have HB := n1_; clear n0_ n1_; (try clear hb); (try clear hb2); (try clear hk); (try clear hi); have p46 : 0 ≤ ((ji41) : Int) := of_decide_eq_true (by first | (with_reducible assumption) | assumption); have q46 : ((ji41) : Int) < ((x3_1.length : Int) : Int) := of_decide_eq_true (by first | (with_reducible assumption) | assumption); obtain ⟨go46, co46, eo46, gb46, gl46, cl46, HG46⟩ := Kd.R_form HO_3.out (by omega); (first | cases eo46 | (injection eo46 with ea_ en_ ec_; (first | subst ea_ | (injection ea_ with ea_; subst ea_)); subst ec_; clear en_)); have GB46 := Aside0.mk gb46; have GG46 := Aside0.mk HG46; clear gb46 gl46 HG46; (first | simp only [add_plain] at hx197_0 | skip); obtain ⟨hx46_0, hf46_0⟩ := Kd.R_celln (⟨#[]⟩ : ByteArray) HO_3.out ((ji41) : Int) p46 q46; replace p46 := eq_true p46; replace q46 := eq_true q46; obtain ⟨hy49_, hz49_⟩ := Kd.R_celln (⟨#[]⟩ : ByteArray) HO_3.out ((ji41) : Int) (of_decide_eq_true (by first | (with_reducible assumption) | assumption)) (of_decide_eq_true (by first | (with_reducible assumption) | assumption)); have HP49 := Kd.R_putg HO_3.out ((ji41) : Int) t198) | ((with_reducible refine gate_store (t := 9) (p := 99) rfl ?_); refine store_event (t := 9) (p := 99) (v := ?vo_w50) (w1 := (w48.setCell ⟨go46, ((ji41) : Int).toNat, none⟩ (.string t198))) ?hg ?ho ?hn ?hr ?_; (case ho => rfl); (case hg => rfl); (case hn => rfl); (case hr => first | (go_simp; done) | (go_simp; rfl)); intro w50 hw; have hg : w48.grownBy w50 (some go46) := (by rw [hw]; exact HP49.2); have hp_ : Kd.R Kd.string 9 w50 w.heap.size (fun _ => True) (.slice (some ⟨go46, 0, none⟩) x3_1.length co47) y200 := (by rw [hw, Ny200.out]; exact HP49.1); clear HP49; have n0_ := Aside0.mk (hp_); have n1_ := Aside0.mk ((by rw [hw]; exact below_set (HB.out) GB46.out : Below w.heap.size w w50)); clear HO_3; clear HB; have HO_3 := n0_; have HB := n1_; clear n0_ n1_; clear hg hw hp_))
                              go_roundg kj5
                              case measure => have := HK1.out; have := HJ5.out; omega
                              case rel => exact ⟨(y200), (wrap64 (x4_1 + 1)), (by first | rfl | (simp; done) | (simp [*]; done) | (simp; exact isEmpty_ne _)), H', ⟨by have := HK1.out; have := HJ5.out; omega⟩, ⟨by (with_reducible repeat (first | apply Kd.R_alloc | apply Kd.R_drewN | apply Kd.R_drew)); exact HO_3.out⟩, ⟨by repeat (first | (with_reducible first | exact HB.out | apply below_alloc | apply pw_below_drewN | apply below_drew1) | exact HB.out)⟩⟩
                            · rw [if_neg c45] at H
                              have c45b0 : (t199 == 0) = false := beq_eq_false_iff_ne.mpr c45
                              have c45b1 : (t199 != 0) = true := bne_iff_ne.mpr c45
                              have H' := Aside0.mk H
                              clear H
                              obtain ⟨Ao51, co51, eo51⟩ := Kd.R_slice HO_3.out
                              subst eo51
                              have p180 : 0 ≤ (x4_1 : Int) := of_decide_eq_true (by first | (with_reducible assumption) | assumption)
                              have q180 : x4_1 < (l0.length : Int) := of_decide_eq_true (by first | (with_reducible assumption) | assumption)
                              obtain ⟨ad180, e180, hx180_0⟩ := Kd.at_int HR0.out x4_1 p180 q180
                              cases e180
                              replace hx180_0 := (HB.out.cell (World.block_lt_of_cell? w _ hx180_0)).trans hx180_0
                              replace p180 := eq_true p180
                              replace q180 := eq_true q180
                              go_wp2_with (first | ((with_reducible refine gate_callee (f := 26) rfl ?_); refine goesL_ (some 33) rfl rfl Try.func26 (by kernel_rfl) rfl #[.int .i64 (rd l0 x4_1), .int .i64 10] rfl (by (try simp only [List.map_toArray, List.map_cons, List.map_nil]); first | done | rfl | (simp only [List.length_drop, List.length_take]; rfl)) ?_; (with_reducible refine (letterlocklaw3_pick.calls (rd l0 x4_1) 10 t181 _ A11.out).mono ?_); rintro e w' ⟨rfl, ⟨nd, rfl⟩⟩; refine ⟨_, rfl, ?_⟩; have p182 : 0 ≤ (x4_1 : Int) := of_decide_eq_true (by first | (with_reducible assumption) | assumption); have q182 : x4_1 < (l0.length : Int) := of_decide_eq_true (by first | (with_reducible assumption) | assumption); obtain ⟨ad182, e182, hx182_0⟩ := Kd.at_int HR0.out x4_1 p182 q182; obtain rfl : ad180 = ad182 := (by injection e182); replace hx182_0 := (HB.out.cell (World.block_lt_of_cell? w _ hx182_0)).trans hx182_0; replace p182 := eq_true p182; replace q182 := eq_true q182) | ((with_reducible refine gate_callee (f := 26) rfl ?_); refine goesL_ (some 39) rfl rfl Try.func26 (by kernel_rfl) rfl #[.int .i64 (wrap64 (Int.tdiv (rd l0 x4_1) 10)), .int .i64 5] rfl (by (try simp only [List.map_toArray, List.map_cons, List.map_nil]); first | done | rfl | (simp only [List.length_drop, List.length_take]; rfl)) ?_; (with_reducible refine (letterlocklaw3_pick.calls (wrap64 (Int.tdiv (rd l0 x4_1) 10)) 5 t183 _ A12.out).mono ?_); rintro e w' ⟨rfl, ⟨nd, rfl⟩⟩; refine ⟨_, rfl, ?_⟩; have p197 : 0 ≤ ((ji41) : Int) := of_decide_eq_true (by first | (with_reducible assumption) | assumption); have q197 : (ji41) < (x3_1.length : Int) := of_decide_eq_true (by first | (with_reducible assumption) | assumption); obtain ⟨ad197, e197, hx197_0⟩ := Kd.at_string (Kd.R_reads' HO_3.out).2.2 (ji41) p197 q197; cases e197; replace p197 := eq_true p197; replace q197 := eq_true q197) | ((with_reducible refine gate_callee (f := 35) rfl ?_); refine goesL_ (some 90) rfl rfl Try.func35 (by kernel_rfl) rfl #[.string (rdOf ByteArray.empty x3_1 (ji41))] rfl (by (try simp only [List.map_toArray, List.map_cons, List.map_nil]); first | done | (simp only [hji41]; rfl) | rfl | (simp only [List.length_drop, List.length_take]; rfl)) ?_; (with_reducible refine (letterlockref3_OfPublic.calls kj5 (rdOf ByteArray.empty x3_1 (ji41)) t198 t199 _ A44.out).mono ?_); rintro e w52 ⟨rfl, hb⟩; refine ⟨_, rfl, ?_⟩; have n0_ := Aside0.mk (Kd.R_below (by (with_reducible repeat (first | apply Kd.R_alloc | apply Kd.R_drewN | apply Kd.R_drew)); exact HO_3.out) hb); have n1_ := Aside0.mk (below_step (by repeat (first | (with_reducible first | exact HB.out | apply below_alloc | apply pw_below_drewN | apply below_drew1) | exact HB.out)) hb); clear HO_3; clear HB; have HO_3 := n0_; have HB := n1_; clear n0_ n1_; (try clear hb); (try clear hb2); (try clear hk); (try clear hi)))
                              go_roundg kj5
                              case measure => have := HK1.out; have := HJ5.out; omega
                              case rel => exact ⟨(x3_1), (wrap64 (x4_1 + 1)), (by first | rfl | (simp; done) | (simp [*]; done) | (simp; exact isEmpty_ne _)), H', ⟨by have := HK1.out; have := HJ5.out; omega⟩, ⟨by (with_reducible repeat (first | apply Kd.R_alloc | apply Kd.R_drewN | apply Kd.R_drew)); exact HO_3.out⟩, ⟨by repeat (first | (with_reducible first | exact HB.out | apply below_alloc | apply pw_below_drewN | apply below_drew1) | exact HB.out)⟩⟩
                          · rw [if_neg c43] at H
                            exact absurd H (by simp)
                        · rw [if_neg c42] at H
                          exact absurd H (by simp)
                      · rw [if_neg c40] at H
                        have c40b0 : (t181 == 5) = false := beq_eq_false_iff_ne.mpr c40
                        have c40b1 : (t181 != 5) = true := bne_iff_ne.mpr c40
                        by_cases c53 : (x3_1.length : Int) > 1
                        · rw [if_pos c53] at H
                          have c53b0 : decide (1 < (x3_1.length : Int)) = true := decide_eq_true c53
                          have c53b1 : decide (1 < x3_1.length) = true := decide_eq_true (by omega)
                          clear c53
                          obtain ⟨ji54, hji54⟩ : ∃ j_ : Int, (wrap64 ((x3_1.length : Int) - 2)) = j_ := ⟨_, rfl⟩
                          replace H : (if 0 ≤ (ji54) then (if (ji54) < (x3_1.length : Int) then (if 0 ≤ (wrap64 ((x3_1.length : Int) - 1)) then (if (wrap64 ((x3_1.length : Int) - 1)) < (x3_1.length : Int) then ((letterlocklaw3_joined.f kj5 t181 (rdOf ByteArray.empty x3_1 (ji54)) (rdOf ByteArray.empty x3_1 (wrap64 ((x3_1.length : Int) - 1)))).bind fun t203 => ((some (([] : List ByteArray) : List ByteArray)).bind fun y204 => (if (ji54) ≤ (x3_1.length : Int) then ((some (x3_1.take ((ji54) : Int).toNat : List ByteArray)).bind fun y207 => (if y204.length + y207.length < 8796093022208 then ((some (y204 ++ y207 : List ByteArray)).bind fun y211 => (if y211.length < 8796093022208 then (letterlocklaw3_grown.l0 kj5 l0 (y211 ++ [t203]) (wrap64 (x4_1 + 1))) else (none))) else (none))) else (none)))) else (none)) else (none)) else (none)) else (none)) = some r := by first | (rw [hji54] at H; exact H) | (simp only [hji54] at H ⊢; exact H)
                          (try rw [hji54] at A11)
                          (try rw [hji54] at A12)
                          have hji54w : (IntKind.i64.wrap ((x3_1.length : Int) - 2)) = ji54 := (i64_w _).trans hji54
                          by_cases c55 : 0 ≤ (ji54)
                          · rw [if_pos c55] at H
                            have c55b0 : decide (0 ≤ (ji54)) = true := decide_eq_true c55
                            clear c55
                            by_cases c56 : (ji54) < (x3_1.length : Int)
                            · rw [if_pos c56] at H
                              have c56b0 : decide ((ji54) < (x3_1.length : Int)) = true := decide_eq_true c56
                              clear c56
                              obtain ⟨ji57, hji57⟩ : ∃ j_ : Int, (wrap64 ((x3_1.length : Int) - 1)) = j_ := ⟨_, rfl⟩
                              replace H : (if 0 ≤ (ji57) then (if (ji57) < (x3_1.length : Int) then ((letterlocklaw3_joined.f kj5 t181 (rdOf ByteArray.empty x3_1 (ji54)) (rdOf ByteArray.empty x3_1 (ji57))).bind fun t203 => ((some (([] : List ByteArray) : List ByteArray)).bind fun y204 => (if (ji54) ≤ (x3_1.length : Int) then ((some (x3_1.take ((ji54) : Int).toNat : List ByteArray)).bind fun y207 => (if y204.length + y207.length < 8796093022208 then ((some (y204 ++ y207 : List ByteArray)).bind fun y211 => (if y211.length < 8796093022208 then (letterlocklaw3_grown.l0 kj5 l0 (y211 ++ [t203]) (wrap64 (x4_1 + 1))) else (none))) else (none))) else (none)))) else (none)) else (none)) = some r := by first | (rw [hji57] at H; exact H) | (simp only [hji57] at H ⊢; exact H)
                              (try rw [hji57] at A11)
                              (try rw [hji57] at A12)
                              have hji57w : (IntKind.i64.wrap ((x3_1.length : Int) - 1)) = ji57 := (i64_w _).trans hji57
                              by_cases c58 : 0 ≤ (ji57)
                              · rw [if_pos c58] at H
                                have c58b0 : decide (0 ≤ (ji57)) = true := decide_eq_true c58
                                clear c58
                                by_cases c59 : (ji57) < (x3_1.length : Int)
                                · rw [if_pos c59] at H
                                  have c59b0 : decide ((ji57) < (x3_1.length : Int)) = true := decide_eq_true c59
                                  clear c59
                                  replace H := Option.bind_eq_some_iff.mp H
                                  obtain ⟨t203, A600, H⟩ := H
                                  replace H : ((some (([] : List ByteArray) : List ByteArray)).bind fun y204 => (if (ji54) ≤ (x3_1.length : Int) then ((some (x3_1.take ((ji54) : Int).toNat : List ByteArray)).bind fun y207 => (if y204.length + y207.length < 8796093022208 then ((some (y204 ++ y207 : List ByteArray)).bind fun y211 => (if y211.length < 8796093022208 then (letterlocklaw3_grown.l0 kj5 l0 (y211 ++ [t203]) (wrap64 (x4_1 + 1))) else (none))) else (none))) else (none))) = some r := H
                                  have A60 := Aside0.mk A600
                                  clear A600
                                  obtain ⟨y204, hy204⟩ : ∃ y_ : List ByteArray, y_ = (([] : List ByteArray)) := ⟨_, rfl⟩
                                  replace H : (if (ji54) ≤ (x3_1.length : Int) then ((some (x3_1.take ((ji54) : Int).toNat : List ByteArray)).bind fun y207 => (if y204.length + y207.length < 8796093022208 then ((some (y204 ++ y207 : List ByteArray)).bind fun y211 => (if y211.length < 8796093022208 then (letterlocklaw3_grown.l0 kj5 l0 (y211 ++ [t203]) (wrap64 (x4_1 + 1))) else (none))) else (none))) else (none)) = some r := by first | (rw [hy204]; with_reducible exact H) | (have H2_ := (Option.bind_some _ _).symm.trans H; rw [hy204]; with_reducible exact H2_) | (have H2_ := (Option.bind_some _ _).symm.trans H; with_reducible exact H2_) | with_reducible exact H | (rw [hy204]; exact H) | exact H
                                  have Ny204 := Aside0.mk hy204
                                  clear hy204
                                  have c61b0 := eq_true (of_decide_eq_true (by first | (with_reducible assumption) | assumption) : 0 ≤ (ji54))
                                  by_cases c62 : (ji54) ≤ (x3_1.length : Int)
                                  · rw [if_pos c62] at H
                                    have c62b0 := eq_true c62
                                    have c62b1 : decide ((ji54) ≤ (x3_1.length : Int)) = true := decide_eq_true c62
                                    clear c62
                                    obtain ⟨y207, hy207⟩ : ∃ y_ : List ByteArray, y_ = (x3_1.take ((ji54) : Int).toNat) := ⟨_, rfl⟩
                                    replace H : (if y204.length + y207.length < 8796093022208 then ((some (y204 ++ y207 : List ByteArray)).bind fun y211 => (if y211.length < 8796093022208 then (letterlocklaw3_grown.l0 kj5 l0 (y211 ++ [t203]) (wrap64 (x4_1 + 1))) else (none))) else (none)) = some r := by first | (rw [hy207]; with_reducible exact H) | (have H2_ := (Option.bind_some _ _).symm.trans H; rw [hy207]; with_reducible exact H2_) | (have H2_ := (Option.bind_some _ _).symm.trans H; with_reducible exact H2_) | with_reducible exact H | (rw [hy207]; exact H) | exact H
                                    have Ny207 := Aside0.mk hy207
                                    clear hy207
                                    by_cases c63 : y204.length + y207.length < 8796093022208
                                    · rw [if_pos c63] at H
                                      have LMc63 := Aside0.mk c63
                                      clear c63
                                      obtain ⟨y211, hy211⟩ : ∃ y_ : List ByteArray, y_ = (y204 ++ y207) := ⟨_, rfl⟩
                                      replace H : (if y211.length < 8796093022208 then (letterlocklaw3_grown.l0 kj5 l0 (y211 ++ [t203]) (wrap64 (x4_1 + 1))) else (none)) = some r := by first | (rw [hy211]; with_reducible exact H) | (have H2_ := (Option.bind_some _ _).symm.trans H; rw [hy211]; with_reducible exact H2_) | (have H2_ := (Option.bind_some _ _).symm.trans H; with_reducible exact H2_) | with_reducible exact H | (rw [hy211]; exact H) | exact H
                                      have Ny211 := Aside0.mk hy211
                                      clear hy211
                                      by_cases c64 : y211.length < 8796093022208
                                      · rw [if_pos c64] at H
                                        have LMc64 := Aside0.mk c64
                                        clear c64
                                        obtain ⟨y214, hy214⟩ : ∃ y_ : List ByteArray, y_ = (y211 ++ [t203]) := ⟨_, rfl⟩
                                        replace H : (letterlocklaw3_grown.l0 kj5 l0 y214 (wrap64 (x4_1 + 1))) = some r := by first | (rw [hy214]; with_reducible exact H) | (have H2_ := (Option.bind_some _ _).symm.trans H; rw [hy214]; with_reducible exact H2_) | (have H2_ := (Option.bind_some _ _).symm.trans H; with_reducible exact H2_) | with_reducible exact H | (rw [hy214]; exact H) | exact H
                                        have Ny214 := Aside0.mk hy214
                                        clear hy214
                                        have H' := Aside0.mk H
                                        clear H
                                        obtain ⟨Ao65, co65, eo65⟩ := Kd.R_slice HO_3.out
                                        subst eo65
                                        have p180 : 0 ≤ (x4_1 : Int) := of_decide_eq_true (by first | (with_reducible assumption) | assumption)
                                        have q180 : x4_1 < (l0.length : Int) := of_decide_eq_true (by first | (with_reducible assumption) | assumption)
                                        obtain ⟨ad180, e180, hx180_0⟩ := Kd.at_int HR0.out x4_1 p180 q180
                                        cases e180
                                        replace hx180_0 := (HB.out.cell (World.block_lt_of_cell? w _ hx180_0)).trans hx180_0
                                        replace p180 := eq_true p180
                                        replace q180 := eq_true q180
                                        try go_wp2_with (first | ((with_reducible refine gate_callee (f := 26) rfl ?_); refine goesL_ (some 33) rfl rfl Try.func26 (by kernel_rfl) rfl #[.int .i64 (rd l0 x4_1), .int .i64 10] rfl (by (try simp only [List.map_toArray, List.map_cons, List.map_nil]); first | done | rfl | (simp only [List.length_drop, List.length_take]; rfl)) ?_; (with_reducible refine (letterlocklaw3_pick.calls (rd l0 x4_1) 10 t181 _ A11.out).mono ?_); rintro e w' ⟨rfl, ⟨nd, rfl⟩⟩; refine ⟨_, rfl, ?_⟩; have p182 : 0 ≤ (x4_1 : Int) := of_decide_eq_true (by first | (with_reducible assumption) | assumption); have q182 : x4_1 < (l0.length : Int) := of_decide_eq_true (by first | (with_reducible assumption) | assumption); obtain ⟨ad182, e182, hx182_0⟩ := Kd.at_int HR0.out x4_1 p182 q182; obtain rfl : ad180 = ad182 := (by injection e182); replace hx182_0 := (HB.out.cell (World.block_lt_of_cell? w _ hx182_0)).trans hx182_0; replace p182 := eq_true p182; replace q182 := eq_true q182) | ((with_reducible refine gate_callee (f := 26) rfl ?_); refine goesL_ (some 39) rfl rfl Try.func26 (by kernel_rfl) rfl #[.int .i64 (wrap64 (Int.tdiv (rd l0 x4_1) 10)), .int .i64 5] rfl (by (try simp only [List.map_toArray, List.map_cons, List.map_nil]); first | done | rfl | (simp only [List.length_drop, List.length_take]; rfl)) ?_; (with_reducible refine (letterlocklaw3_pick.calls (wrap64 (Int.tdiv (rd l0 x4_1) 10)) 5 t183 _ A12.out).mono ?_); rintro e w' ⟨rfl, ⟨nd, rfl⟩⟩; refine ⟨_, rfl, ?_⟩))
                                        (try (rw [drewN_self wc]; generalize hq_ : World.drewN wc _ = wc; have n0_ : Aside0 (Kd.R Kd.string 9 wc w.heap.size (fun _ => True) (.slice Ao65 x3_1.length co65) x3_1) := ⟨by rw [← hq_]; exact (by (with_reducible repeat (first | apply Kd.R_alloc | apply Kd.R_drewN | apply Kd.R_drew)); exact HO_3.out)⟩; have n1_ : Aside0 (Below w.heap.size w wc) := ⟨by rw [← hq_]; exact (by repeat (first | (with_reducible first | exact HB.out | apply below_alloc | apply pw_below_drewN | apply below_drew1) | exact HB.out))⟩; clear HO_3 HB hq_; have HO_3 := n0_; have HB := n1_; clear n0_ n1_))
                                        have n0_ := Aside0.mk (Kd.R_drew HO_3.out)
                                        have n1_ := Aside0.mk (below_drew1 HB.out)
                                        clear HO_3
                                        clear HB
                                        have HO_3 := n0_
                                        have HB := n1_
                                        clear n0_ n1_
                                        have p201 : 0 ≤ ((ji54) : Int) := of_decide_eq_true (by first | (with_reducible assumption) | assumption)
                                        have q201 : (ji54) < (x3_1.length : Int) := of_decide_eq_true (by first | (with_reducible assumption) | assumption)
                                        obtain ⟨ad201, e201, hx201_0⟩ := Kd.at_string (Kd.R_reads' HO_3.out).2.2 (ji54) p201 q201
                                        cases e201
                                        replace p201 := eq_true p201
                                        replace q201 := eq_true q201
                                        have p202 : 0 ≤ ((ji57) : Int) := of_decide_eq_true (by first | (with_reducible assumption) | assumption)
                                        have q202 : (ji57) < (x3_1.length : Int) := of_decide_eq_true (by first | (with_reducible assumption) | assumption)
                                        obtain ⟨ad202, e202, hx202_0⟩ := Kd.at_string (Kd.R_reads' HO_3.out).2.2 (ji57) p202 q202
                                        obtain rfl : ad201 = ad202 := (by injection e202)
                                        replace p202 := eq_true p202
                                        replace q202 := eq_true q202
                                        refine start_ (n := 13) (S := fun w' => w'.cell? (ad201.add ((ji54)).toNat) = some (.string (rdOf ByteArray.empty x3_1 (ji54))) ∧ w'.cell? (ad201.add ((ji57)).toNat) = some (.string (rdOf ByteArray.empty x3_1 (ji57)))) (ds := []) #[false, false, false, false, false, false, false, false, false, false, false, false, false] (by kernel_rfl) rfl rfl ⟨hx201_0, hx202_0⟩ (fun hHeld => ?_); refine with_tabW letterlocklaw3_grown.tab22 letterlocklaw3_grown.bits22 (fun HT_ HW_ => ?_)
                                        generalize wc.drew = w66 at HO_3 HB hx201_0 hx202_0 hHeld ⊢
                                        refine pure_ (i := 0) (N := some 103) (v := ?_) (a' := ?_) #[true, false, false, false, false, false, false, false, false, false, false, false, false] rfl rfl (any_of HT_.out (by kernel_rfl)) (fun _ _ _ h => h) (Or.inl ⟨by rfl, ?_⟩) ?_ ?_
                                        rotate_left
                                        · intro w'
                                          go_simp
                                          with_reducible rfl
                                        rotate_left
                                        · simp only [Act.put, List.setIfInBounds_toArray, List.set_cons_zero, List.set_cons_succ, i64_w, i32_w]
                                          rfl
                                        refine pure_ (i := 1) (N := some 104) (v := ?_) (a' := ?_) #[true, true, false, false, false, false, false, false, false, false, false, false, false] rfl rfl (any_of HT_.out (by kernel_rfl)) (fun _ _ _ h => h) (Or.inl ⟨by rfl, ?_⟩) ?_ ?_
                                        rotate_left
                                        · intro w'
                                          go_simp
                                          with_reducible rfl
                                        rotate_left
                                        · simp only [Act.put, List.setIfInBounds_toArray, List.set_cons_zero, List.set_cons_succ, i64_w, i32_w]
                                          rfl
                                        refine pure_ (i := 2) (N := some 105) (v := ?_) (a' := ?_) #[true, true, true, false, false, false, false, false, false, false, false, false, false] rfl rfl (any_of HT_.out (by kernel_rfl)) (fun _ _ _ h => h) (Or.inl ⟨by rfl, ?_⟩) ?_ ?_
                                        rotate_left
                                        · intro w'
                                          go_simp
                                          with_reducible rfl
                                        rotate_left
                                        · simp only [Act.put, List.setIfInBounds_toArray, List.set_cons_zero, List.set_cons_succ, i64_w, i32_w]
                                          rfl
                                        refine pure_ (i := 3) (N := some 106) (v := ?_) (a' := ?_) #[true, true, true, true, false, false, false, false, false, false, false, false, false] rfl rfl (any_of HT_.out (by kernel_rfl)) (fun _ _ _ h => h) (Or.inl ⟨by rfl, ?_⟩) ?_ ?_
                                        rotate_left
                                        · intro w'
                                          go_simp
                                          with_reducible rfl
                                        rotate_left
                                        · simp only [Act.put, List.setIfInBounds_toArray, List.set_cons_zero, List.set_cons_succ, i64_w, i32_w]
                                          rfl
                                        refine pure_ (i := 4) (N := some 107) (v := ?_) (a' := ?_) #[true, true, true, true, true, false, false, false, false, false, false, false, false] rfl rfl (any_of HT_.out (by kernel_rfl)) (fun _ _ _ h => h) (Or.inl ⟨by rfl, ?_⟩) ?_ ?_
                                        rotate_left
                                        · intro w'
                                          go_simp
                                          with_reducible rfl
                                        rotate_left
                                        · simp only [Act.put, List.setIfInBounds_toArray, List.set_cons_zero, List.set_cons_succ, i64_w, i32_w]
                                          rfl
                                        refine pure_ (i := 6) (N := some 109) (v := ?_) (a' := ?_) #[true, true, true, true, true, false, true, false, false, false, false, false, false] rfl rfl (any_of HT_.out (by kernel_rfl)) (fun _ _ _ h => h) (Or.inl ⟨by rfl, ?_⟩) ?_ ?_
                                        rotate_left
                                        · intro w'
                                          go_simp
                                          with_reducible rfl
                                        rotate_left
                                        · simp only [Act.put, List.setIfInBounds_toArray, List.set_cons_zero, List.set_cons_succ, i64_w, i32_w]
                                          rfl
                                        refine pure_ (i := 7) (N := some 110) (v := ?_) (a' := ?_) #[true, true, true, true, true, false, true, true, false, false, false, false, false] rfl rfl (any_of HT_.out (by kernel_rfl)) (fun _ _ _ h => h) (Or.inl ⟨by rfl, ?_⟩) ?_ ?_
                                        rotate_left
                                        · intro w'
                                          go_simp
                                          with_reducible rfl
                                        rotate_left
                                        · simp only [Act.put, List.setIfInBounds_toArray, List.set_cons_zero, List.set_cons_succ, i64_w, i32_w]
                                          rfl
                                        refine pure_ (i := 8) (N := some 111) (v := ?_) (a' := ?_) #[true, true, true, true, true, false, true, true, true, false, false, false, false] rfl rfl (any_of HT_.out (by kernel_rfl)) (fun _ _ _ h => h) (Or.inl ⟨by rfl, ?_⟩) ?_ ?_
                                        rotate_left
                                        · intro w'
                                          go_simp
                                          with_reducible rfl
                                        rotate_left
                                        · simp only [Act.put, List.setIfInBounds_toArray, List.set_cons_zero, List.set_cons_succ, i64_w, i32_w]
                                          rfl
                                        refine pure_ (i := 9) (N := some 112) (v := ?_) (a' := ?_) #[true, true, true, true, true, false, true, true, true, true, false, false, false] rfl rfl (any_of HT_.out (by kernel_rfl)) (fun _ _ _ h => h) (Or.inl ⟨by rfl, ?_⟩) ?_ ?_
                                        rotate_left
                                        · intro w'
                                          go_simp
                                          with_reducible rfl
                                        rotate_left
                                        · simp only [Act.put, List.setIfInBounds_toArray, List.set_cons_zero, List.set_cons_succ, i64_w, i32_w]
                                          rfl
                                        refine take_ (i := 5) (N := some 108) (v := ?_) (a' := ?_) #[true, true, true, true, true, true, true, true, true, true, false, false, false] rfl rfl (take_ofW HT_.out HW_.out (by kernel_rfl)) (fun _ _ _ h => h) (Or.inl ⟨by rfl, ?_⟩) hHeld ?_ ?_
                                        rotate_left
                                        · rintro w' ⟨s0, s1⟩
                                          go_simp
                                          with_reducible rfl
                                        rotate_left
                                        · simp only [Act.put, List.setIfInBounds_toArray, List.set_cons_zero, List.set_cons_succ, i64_w, i32_w]
                                          rfl
                                        refine take_ (i := 10) (N := some 113) (v := ?_) (a' := ?_) #[true, true, true, true, true, true, true, true, true, true, true, false, false] rfl rfl (take_ofW HT_.out HW_.out (by kernel_rfl)) (fun _ _ _ h => h) (Or.inl ⟨by rfl, ?_⟩) hHeld ?_ ?_
                                        rotate_left
                                        · rintro w' ⟨s0, s1⟩
                                          go_simp
                                          with_reducible rfl
                                        rotate_left
                                        · simp only [Act.put, List.setIfInBounds_toArray, List.set_cons_zero, List.set_cons_succ, i64_w, i32_w]
                                          rfl
                                        refine one_ (i := 11) (N := some 114) #[true, true, true, true, true, true, true, true, true, true, true, true, false] rfl rfl (one_of HT_.out (by kernel_rfl)) (by decide) (fun K hK => ?_)
                                        refine goes_ Try.func36 (by kernel_rfl) rfl #[.int .i64 t181, .string (rdOf ByteArray.empty x3_1 (ji54)), .string (rdOf ByteArray.empty x3_1 (ji57))] (by rfl) rfl rfl (by (try simp only [List.map_toArray, List.map_cons, List.map_nil]); first | done | (simp only [hji54, hji57]; rfl) | rfl | (simp only [List.length_drop, List.length_take]; rfl)) ?_
                                        with_reducible refine (letterlocklaw3_joined.calls kj5 t181 (rdOf ByteArray.empty x3_1 (ji54)) (rdOf ByteArray.empty x3_1 (ji57)) t203 _ A60.out).mono ?_
                                        rintro e w67 ⟨rfl, hb⟩
                                        have HS0_ := (hb.cell (World.block_lt_of_cell? _ _ (hHeld.1))).trans (hHeld.1)
                                        have HS1_ := (hb.cell (World.block_lt_of_cell? _ _ (hHeld.2))).trans (hHeld.2)
                                        refine ⟨_, rfl, ?_⟩
                                        have n0_ := Aside0.mk (Kd.R_below (by (with_reducible repeat (first | apply Kd.R_alloc | apply Kd.R_drewN | apply Kd.R_drew)); exact HO_3.out) hb)
                                        have n1_ := Aside0.mk (below_step (by repeat (first | (with_reducible first | exact HB.out | apply below_alloc | apply pw_below_drewN | apply below_drew1) | exact HB.out)) hb)
                                        clear HO_3
                                        clear HB
                                        have HO_3 := n0_
                                        have HB := n1_
                                        clear n0_ n1_
                                        (try clear hb)
                                        (try clear hb2)
                                        (try clear hk)
                                        (try clear hi)
                                        refine hK.out _ _ ⟨HS0_, HS1_⟩ (fun hHeld => ?_)
                                        clear hK K
                                        refine norm_ (a' := ?_) ?_ ?_
                                        rotate_left
                                        · show Act.put _ (some 114) _ = _
                                          simp only [Act.put, List.setIfInBounds_toArray, List.set_cons_zero, List.set_cons_succ, i64_w, i32_w]
                                          rfl
                                        refine pure_ (i := 12) (N := some 14) (v := ?_) (a' := ?_) #[true, true, true, true, true, true, true, true, true, true, true, true, true] rfl rfl (any_of HT_.out (by kernel_rfl)) (fun _ _ _ h => h) (Or.inl ⟨by rfl, ?_⟩) ?_ ?_
                                        rotate_left
                                        · intro w'
                                          go_simp
                                          with_reducible rfl
                                        rotate_left
                                        · simp only [Act.put, List.setIfInBounds_toArray, List.set_cons_zero, List.set_cons_succ, i64_w, i32_w]
                                          rfl
                                        refine done_ (done_of HT_.out (by kernel_rfl)) ?_
                                        try go_wp2_with (first | ((with_reducible refine gate_dst (N := 115) rfl ?_); refine Kd.R_lit Kd.string _ 9 ?hg (N := 115) ?hd (xs := ([] : List ByteArray)) (inner := []) (ok := fun _ => True) (okp := fun _ => True) ?hr ?hp (fun _ hk => hk) trivial (Below.refl _ _) (Nat.le_refl _) (by simp) ?_; (case hd => rfl); (case hg => rfl); (case hr => first | (go_simp; done) | (go_simp; rfl)); (case hp => exact (Reps.none _ _)); intro v205 w68 ho69 hb hg_ hnew_; clear hg_ hnew_; (first | rw [← Ny204.out] at ho69 | (simp only [Int.reduceToNat] at ho69; rw [← Ny204.out] at ho69)); have n0_ := Aside0.mk (Kd.R_elder' (by (with_reducible repeat (first | apply Kd.R_alloc | apply Kd.R_drewN | apply Kd.R_drew)); exact HO_3.out) (Kd.R_base ho69) hb); have n1_ := Aside0.mk (Kd.R_lower (Kd.R_new' ho69 (Kd.R_lt (by (with_reducible repeat (first | apply Kd.R_alloc | apply Kd.R_drewN | apply Kd.R_drew)); exact HO_3.out))) (below_size (by repeat (first | (with_reducible first | exact HB.out | apply below_alloc | apply pw_below_drewN | apply below_drew1) | exact HB.out)))); have n2_ := Aside0.mk (below_step (by repeat (first | (with_reducible first | exact HB.out | apply below_alloc | apply pw_below_drewN | apply below_drew1) | exact HB.out)) hb); clear HO_3; clear HB; have HO_3 := n0_; have HO206 := n1_; have HB := n2_; clear n0_ n1_ n2_; clear hb ho69; have q70 : ((ji54) : Int) ≤ ((x3_1.length : Int) : Int) := of_decide_eq_true (by first | (with_reducible assumption) | assumption); obtain ⟨i070, hi070, _, hsz70, _⟩ := info_parts info9; have hroom70 : x3_1.length ≤ co65 := (Kd.R_reads' HO_3.out).2.1; have hC70 : Kd.C Kd.string _ (some ad201) x3_1.length x3_1 := (Kd.R_reads' HO_3.out).2.2; have hcut70 := cut_to (P := Try.prog) 36 9 .i64 Try.underlying36 hi070 (some ad201) x3_1.length co65 (ji54) (of_decide_eq_true (by first | (with_reducible assumption) | assumption)) q70 hroom70; have hr70 := Kd.C_take (m := ((ji54) : Int).toNat) hC70 (by omega); have hy70 : y207.length = ((ji54) : Int).toNat := (by rw [Ny207.out, List.length_take]; omega); rw [← Ny207.out] at hr70; rw [← hy70] at hcut70; have HR210 := Aside0.mk hr70; have HC210 := Aside0.mk (show y207.length ≤ co65 from by omega); clear hr70 hC70 hroom70 hi070 hsz70; have KY70 := Aside0.mk hy70; clear hy70; have KL70 := Aside0.mk (show ((ji54) : Int).toNat ≤ x3_1.length from by omega); replace q70 := eq_true q70) | ((with_reducible refine gate_builtin (b := .append) (xs := #[.tmp 115, .tmp 119]) rfl ?_); at_builtin; refine Kd.R_append_rows Kd.string (w0 := w) w.heap.size rfl (.tmp 115) (.tmp 119) 36 9 (.string ⟨#[]⟩) 16 rfl Try.underlying36 info9 rfl (by decide) (by omega) v205 y204 y207 _ _ _ (fun k_ => some k_ ≠ (.slice (some ad201) x3_1.length co65 : Value).ownBlock) (fun _ => False) rfl rfl ?aO ?aR (fun _ _ h => h) (fun _ h => h.elim) ?aF ?aB ?aS ?aL ?_; (case aR => repeat (first | exact (by repeat (first | (with_reducible exact HR210.out) | (with_reducible refine Kd.C_alloc ?_ _) | (with_reducible refine Kd.C_drewN ?_ _) | (with_reducible refine Kd.C_drew ?_) | exact HR210.out)) | (with_reducible refine Kd.C_alloc ?_ _) | (with_reducible refine Kd.C_drewN ?_ _) | (with_reducible refine Kd.C_drew ?_))); (case aB => exact (by repeat (first | (with_reducible first | exact HB.out | apply below_alloc | apply pw_below_drewN | apply below_drew1) | exact HB.out))); (case aF => exact (fun k_ hk => Kd.fresh' (Kd.R_lt (by (with_reducible repeat (first | apply Kd.R_alloc | apply Kd.R_drewN | apply Kd.R_drew)); exact HO_3.out)) k_ hk)); (case aO => exact (by (with_reducible repeat (first | apply Kd.R_alloc | apply Kd.R_drewN | apply Kd.R_drew)); exact Kd.R_mono HO206.out (fun _ hk => hk.2))); (case aS => exact (below_size (by repeat (first | (with_reducible first | exact HB.out | apply below_alloc | apply pw_below_drewN | apply below_drew1) | exact HB.out)))); (case aL => have := LMc63.out; omega); intro v212 w71 ho hb hg hat; rw [← Ny211.out] at ho; have n0_ := Aside0.mk (Kd.R_after (ok := (fun _ => True)) (by (with_reducible repeat (first | apply Kd.R_alloc | apply Kd.R_drewN | apply Kd.R_drew)); exact HO_3.out) hg hat); have n1_ := Aside0.mk (hb); have n2_ := Aside0.mk ((show Kd.C Kd.string w71 (some ad201) y207.length y207 from by rw [Ny207.out]; exact Kd.C_take (m := ((ji54) : Int).toNat) ((Kd.R_reads' (Kd.R_after (ok := (fun _ => True)) (by (with_reducible repeat (first | apply Kd.R_alloc | apply Kd.R_drewN | apply Kd.R_drew)); exact HO_3.out) hg hat)).2.2) KL70.out)); have n3_ := Aside0.mk (ho); clear HO_3; clear HB; clear HR210; clear HO206; have HO_3 := n0_; have HB := n1_; have HR210 := n2_; have HO213 := n3_; clear n0_ n1_ n2_ n3_; clear ho hb hg hat) | ((with_reducible refine gate_builtin (b := .append) (xs := #[.tmp 120, .tmp 122]) rfl ?_); at_builtin; refine Kd.R_append Kd.string (w0 := w) w.heap.size rfl (.tmp 120) (.tmp 122) 36 9 (.string ⟨#[]⟩) 16 rfl Try.underlying36 info9 rfl (by decide) (by omega) v212 y211 t203 [.string t203] (fun k_ => some k_ ≠ (.slice (some ad201) x3_1.length co65 : Value).ownBlock) (fun _ => False) rfl rfl ?aP (fun _ hk => hk.elim) ?aF ?aO ?aB ?aS ?aL ?_; (case aP => exact rfl); (case aB => exact (by repeat (first | (with_reducible first | exact HB.out | apply below_alloc | apply pw_below_drewN | apply below_drew1) | exact HB.out))); (case aF => exact (fun k_ hk => Kd.fresh' (Kd.R_lt (by (with_reducible repeat (first | apply Kd.R_alloc | apply Kd.R_drewN | apply Kd.R_drew)); exact HO_3.out)) k_ hk)); (case aO => exact (by (with_reducible repeat (first | apply Kd.R_alloc | apply Kd.R_drewN | apply Kd.R_drew)); exact HO213.out)); (case aS => exact (below_size (by repeat (first | (with_reducible first | exact HB.out | apply below_alloc | apply pw_below_drewN | apply below_drew1) | exact HB.out)))); (case aL => have := LMc64.out; omega); intro v215 w72 ho hb hg hat; rw [← Ny214.out] at ho; have n0_ := Aside0.mk (Kd.R_after (ok := (fun _ => True)) (by (with_reducible repeat (first | apply Kd.R_alloc | apply Kd.R_drewN | apply Kd.R_drew)); exact HO_3.out) hg hat); have n1_ := Aside0.mk (hb); have n2_ := Aside0.mk ((show Kd.C Kd.string w72 (some ad201) y207.length y207 from by rw [Ny207.out]; exact Kd.C_take (m := ((ji54) : Int).toNat) ((Kd.R_reads' (Kd.R_after (ok := (fun _ => True)) (by (with_reducible repeat (first | apply Kd.R_alloc | apply Kd.R_drewN | apply Kd.R_drew)); exact HO_3.out) hg hat)).2.2) KL70.out)); have n3_ := Aside0.mk (ho); clear HO_3; clear HB; clear HR210; clear HO213; have HO_3 := n0_; have HB := n1_; have HR210 := n2_; have HO216 := n3_; clear n0_ n1_ n2_ n3_; clear ho hb hg hat))
                                        go_roundg kj5
                                        case measure => have := HK1.out; have := HJ5.out; omega
                                        case rel => exact ⟨(y214), (wrap64 (x4_1 + 1)), (by first | rfl | (simp; done) | (simp [*]; done) | (simp; exact isEmpty_ne _)), H', ⟨by have := HK1.out; have := HJ5.out; omega⟩, ⟨by (with_reducible repeat (first | apply Kd.R_alloc | apply Kd.R_drewN | apply Kd.R_drew)); exact Kd.R_mono HO216.out (fun _ hk => trivial)⟩, ⟨by repeat (first | (with_reducible first | exact HB.out | apply below_alloc | apply pw_below_drewN | apply below_drew1) | exact HB.out)⟩⟩
                                      · rw [if_neg c64] at H
                                        exact absurd H (by simp)
                                    · rw [if_neg c63] at H
                                      exact absurd H (by simp)
                                  · rw [if_neg c62] at H
                                    exact absurd H (by simp)
                                · rw [if_neg c59] at H
                                  exact absurd H (by simp)
                              · rw [if_neg c58] at H
                                exact absurd H (by simp)
                            · rw [if_neg c56] at H
                              exact absurd H (by simp)
                          · rw [if_neg c55] at H
                            exact absurd H (by simp)
                        · rw [if_neg c53] at H
                          have c53b0 : decide (1 < (x3_1.length : Int)) = false := decide_eq_false c53
                          have c53b1 : decide (1 < x3_1.length) = false := decide_eq_false (by omega)
                          clear c53
                          have H' := Aside0.mk H
                          clear H
                          obtain ⟨Ao73, co73, eo73⟩ := Kd.R_slice HO_3.out
                          subst eo73
                          have p180 : 0 ≤ (x4_1 : Int) := of_decide_eq_true (by first | (with_reducible assumption) | assumption)
                          have q180 : x4_1 < (l0.length : Int) := of_decide_eq_true (by first | (with_reducible assumption) | assumption)
                          obtain ⟨ad180, e180, hx180_0⟩ := Kd.at_int HR0.out x4_1 p180 q180
                          cases e180
                          replace hx180_0 := (HB.out.cell (World.block_lt_of_cell? w _ hx180_0)).trans hx180_0
                          replace p180 := eq_true p180
                          replace q180 := eq_true q180
                          go_wp2_with (first | ((with_reducible refine gate_callee (f := 26) rfl ?_); refine goesL_ (some 33) rfl rfl Try.func26 (by kernel_rfl) rfl #[.int .i64 (rd l0 x4_1), .int .i64 10] rfl (by (try simp only [List.map_toArray, List.map_cons, List.map_nil]); first | done | rfl | (simp only [List.length_drop, List.length_take]; rfl)) ?_; (with_reducible refine (letterlocklaw3_pick.calls (rd l0 x4_1) 10 t181 _ A11.out).mono ?_); rintro e w' ⟨rfl, ⟨nd, rfl⟩⟩; refine ⟨_, rfl, ?_⟩; have p182 : 0 ≤ (x4_1 : Int) := of_decide_eq_true (by first | (with_reducible assumption) | assumption); have q182 : x4_1 < (l0.length : Int) := of_decide_eq_true (by first | (with_reducible assumption) | assumption); obtain ⟨ad182, e182, hx182_0⟩ := Kd.at_int HR0.out x4_1 p182 q182; obtain rfl : ad180 = ad182 := (by injection e182); replace hx182_0 := (HB.out.cell (World.block_lt_of_cell? w _ hx182_0)).trans hx182_0; replace p182 := eq_true p182; replace q182 := eq_true q182) | ((with_reducible refine gate_callee (f := 26) rfl ?_); refine goesL_ (some 39) rfl rfl Try.func26 (by kernel_rfl) rfl #[.int .i64 (wrap64 (Int.tdiv (rd l0 x4_1) 10)), .int .i64 5] rfl (by (try simp only [List.map_toArray, List.map_cons, List.map_nil]); first | done | rfl | (simp only [List.length_drop, List.length_take]; rfl)) ?_; (with_reducible refine (letterlocklaw3_pick.calls (wrap64 (Int.tdiv (rd l0 x4_1) 10)) 5 t183 _ A12.out).mono ?_); rintro e w' ⟨rfl, ⟨nd, rfl⟩⟩; refine ⟨_, rfl, ?_⟩))
                          go_roundg kj5
                          case measure => have := HK1.out; have := HJ5.out; omega
                          case rel => exact ⟨(x3_1), (wrap64 (x4_1 + 1)), (by first | rfl | (simp; done) | (simp [*]; done) | (simp; exact isEmpty_ne _)), H', ⟨by have := HK1.out; have := HJ5.out; omega⟩, ⟨by (with_reducible repeat (first | apply Kd.R_alloc | apply Kd.R_drewN | apply Kd.R_drew)); exact HO_3.out⟩, ⟨by repeat (first | (with_reducible first | exact HB.out | apply below_alloc | apply pw_below_drewN | apply below_drew1) | exact HB.out)⟩⟩
              · rw [if_neg c10] at H
                exact absurd H (by simp)
            · rw [if_neg c9] at H
              exact absurd H (by simp)
          · replace c8 := Bool.eq_false_iff.mpr c8
            subst c8
            have H1 : (if 0 ≤ (wrap64 ((x3_1.length : Int) - 1)) then (if (wrap64 ((x3_1.length : Int) - 1)) < (x3_1.length : Int) then (some (rdOf ByteArray.empty x3_1 (wrap64 ((x3_1.length : Int) - 1)))) else (none)) else (none)) = some r := by rw [if_neg (show ¬ (false = true) by decide)] at H; exact H
            clear H
            have H := H1
            clear H1
            obtain ⟨ji74, hji74⟩ : ∃ j_ : Int, (wrap64 ((x3_1.length : Int) - 1)) = j_ := ⟨_, rfl⟩
            replace H : (if 0 ≤ (ji74) then (if (ji74) < (x3_1.length : Int) then (some (rdOf ByteArray.empty x3_1 (ji74))) else (none)) else (none)) = some r := by first | (rw [hji74] at H; exact H) | (simp only [hji74] at H ⊢; exact H)
            have hji74w : (IntKind.i64.wrap ((x3_1.length : Int) - 1)) = ji74 := (i64_w _).trans hji74
            by_cases c75 : 0 ≤ (ji74)
            · rw [if_pos c75] at H
              have c75b0 : decide (0 ≤ (ji74)) = true := decide_eq_true c75
              clear c75
              by_cases c76 : (ji74) < (x3_1.length : Int)
              · rw [if_pos c76] at H
                have c76b0 : decide ((ji74) < (x3_1.length : Int)) = true := decide_eq_true c76
                clear c76
                obtain rfl := Option.some.inj H
                obtain ⟨Ao77, co77, eo77⟩ := Kd.R_slice HO_3.out
                subst eo77
                have p179 : 0 ≤ ((ji74) : Int) := of_decide_eq_true (by first | (with_reducible assumption) | assumption)
                have q179 : (ji74) < (x3_1.length : Int) := of_decide_eq_true (by first | (with_reducible assumption) | assumption)
                obtain ⟨ad179, e179, hx179_0⟩ := Kd.at_string (Kd.R_reads' HO_3.out).2.2 (ji74) p179 q179
                cases e179
                replace p179 := eq_true p179
                replace q179 := eq_true q179
                go_wp2
                go_ret
                exact ⟨by first | rfl | (simp [errW_none, errW_some] <;> rfl) | (simp only [← hji74]; first | rfl | (simp [errW_none, errW_some] <;> rfl)) | (simp [*, errW_none, errW_some] <;> rfl), by repeat (first | (with_reducible first | exact HB.out | apply below_alloc | apply pw_below_drewN | apply below_drew1) | exact HB.out)⟩
              · rw [if_neg c76] at H
                exact absurd H (by simp)
            · rw [if_neg c75] at H
              exact absurd H (by simp)

/-! ### letterlocklaw3_same: function 42 -/
def letterlocklaw3_same.l0 : Nat → List ByteArray → List ByteArray → Int → Option (Bool)
  | 0, _, _, _ => none
  | k + 1, x0, x1, x5 => if x5 < (x0.length : Int) then (if 0 ≤ x5 then (if x5 < (x1.length : Int) then (if (rdOf ByteArray.empty x0 x5).toList = (rdOf ByteArray.empty x1 x5).toList then (letterlocklaw3_same.l0 k x0 x1 (wrap64 (x5 + 1))) else (some false)) else (none)) else (none)) else (some true)
def letterlocklaw3_same.f (k : Nat) (l0 : List ByteArray) (l1 : List ByteArray) : Option (Bool) := if (l0.length : Int) = (l1.length : Int) then (letterlocklaw3_same.l0 k l0 l1 0) else (some false)
theorem letterlocklaw3_same.mono_l : ∀ k, (∀ y0 y1 y2, LeO (letterlocklaw3_same.l0 k y0 y1 y2) (letterlocklaw3_same.l0 (k + 1) y0 y1 y2))
  | 0 => fun _ _ _ r h => by simp [letterlocklaw3_same.l0] at h
  | k + 1 => by
    have ih0 := letterlocklaw3_same.mono_l k
    · intro y0 y1 y2
      unfold letterlocklaw3_same.l0
      repeat' first
      | (with_reducible exact ih0 _ _ _)
      | (with_reducible exact LeO.refl _)
      | (with_reducible exact LeO.none _)
      | (with_reducible refine LeO.ite ?_ ?_)
      | (with_reducible refine LeO.bind ?_ (fun _ => ?_))
      | exact ih0 _ _ _
      | exact LeO.none _
      | refine LeO.ite ?_ ?_
      | refine LeO.bind ?_ (fun _ => ?_)
theorem letterlocklaw3_same.mono : ∀ a0 a1 k, LeO (letterlocklaw3_same.f k a0 a1) (letterlocklaw3_same.f (k + 1) a0 a1) := by
  intro a0 a1 k
  have ih0 := letterlocklaw3_same.mono_l k
  unfold letterlocklaw3_same.f
  repeat' first
      | (with_reducible exact ih0 _ _ _)
      | (with_reducible exact LeO.refl _)
      | (with_reducible exact LeO.none _)
      | (with_reducible refine LeO.ite ?_ ?_)
      | (with_reducible refine LeO.bind ?_ (fun _ => ?_))
      | exact ih0 _ _ _
      | exact LeO.none _
      | refine LeO.ite ?_ ?_
      | refine LeO.bind ?_ (fun _ => ?_)
set_option maxHeartbeats 8000000 in
set_option maxRecDepth 100000 in
theorem letterlocklaw3_same.calls (k : Nat) (A0 : Option Addr) (c0 : Nat) (l0 : List ByteArray) (A1 : Option Addr) (c1 : Nat) (l1 : List ByteArray) (r : Bool) (w : World) (hr0 : Kd.C Kd.string w A0 l0.length l0) (hc0 : l0.length ≤ c0) (hr1 : Kd.C Kd.string w A1 l1.length l1) (hc1 : l1.length ≤ c1) (h : letterlocklaw3_same.f k l0 l1 = some r) :
    Calls Try.prog 42 #[.slice A0 l0.length c0, .slice A1 l1.length c1] w fun e w' => e = .returned (.bool r) ∧ Drawn0 w w' := by
  have HR0 := Aside0.mk hr0
  have HC0 := Aside0.mk hc0
  clear hr0 hc0
  have HR1 := Aside0.mk hr1
  have HC1 := Aside0.mk hc1
  clear hr1 hc1
  have H : (if (l0.length : Int) = (l1.length : Int) then (letterlocklaw3_same.l0 k l0 l1 0) else (some false)) = some r := h
  clear h
  by_cases c3 : (l0.length : Int) = (l1.length : Int)
  · rw [if_pos c3] at H
    have c3b0 : ((l0.length : Int) == (l1.length : Int)) = true := beq_iff_eq.mpr c3
    have c3b1 : ((l0.length : Int) != (l1.length : Int)) = false := bne_eq_false_iff_eq.mpr c3
    have c3b2 : (l0.length == l1.length) = true := by first | simpa using c3 | (simp at c3 ⊢; omega)
    clear c3
    have H' := Aside0.mk H
    clear H
    go_enter Try.func42, Try.ntmps42
    go_wp2
    repeat (go_quiet (fail); try go_wp2)
    go_loopg [5] k (fun kq v5 w' => ∃ (x5_1 : Int), v5 = .int .i64 x5_1 ∧ Aside0 (letterlocklaw3_same.l0 kq l0 l1 x5_1 = some r) ∧ Aside0 (kq ≤ k) ∧ Drawn0 w w')
    case atStart => exact ⟨(0), (by first | rfl | (simp; done) | (simp [*]; done) | (simp; exact isEmpty_ne _)), H', ⟨Nat.le_refl _⟩, by repeat (first | exact Drawn0.refl _ | apply Drawn0.step)⟩
    case round =>
      clear H'
      try clear c1
      try clear p2
      try clear c3
      try clear c3b0
      try clear c3b1
      try clear c3b2
      obtain ⟨x5_1, rfl, HA, HK1, ⟨m1, rfl⟩⟩ := hrel
      cases gk with
      | zero => exact absurd HA.out (by simp [letterlocklaw3_same.l0])
      | succ k1 =>
        have H := HA.out
        clear HA
        simp only [letterlocklaw3_same.l0] at H
        by_cases c4 : x5_1 < (l0.length : Int)
        · rw [if_pos c4] at H
          have c4b0 : decide (x5_1 < (l0.length : Int)) = true := decide_eq_true c4
          clear c4
          by_cases c5 : 0 ≤ x5_1
          · rw [if_pos c5] at H
            have c5b0 : decide (0 ≤ x5_1) = true := decide_eq_true c5
            clear c5
            by_cases c6 : x5_1 < (l1.length : Int)
            · rw [if_pos c6] at H
              have c6b0 : decide (x5_1 < (l1.length : Int)) = true := decide_eq_true c6
              clear c6
              by_cases c7 : (rdOf ByteArray.empty l0 x5_1).toList = (rdOf ByteArray.empty l1 x5_1).toList
              · rw [if_pos c7] at H
                have c7b0 : ((rdOf ByteArray.empty l0 x5_1).toList == (rdOf ByteArray.empty l1 x5_1).toList) = true := beq_iff_eq.mpr c7
                have c7b1 : ((rdOf ByteArray.empty l0 x5_1).toList != (rdOf ByteArray.empty l1 x5_1).toList) = false := bne_eq_false_iff_eq.mpr c7
                clear c7
                have H' := Aside0.mk H
                clear H
                have p328 : 0 ≤ (x5_1 : Int) := of_decide_eq_true (by first | (with_reducible assumption) | assumption)
                have q328 : x5_1 < (l0.length : Int) := of_decide_eq_true (by first | (with_reducible assumption) | assumption)
                obtain ⟨ad328, e328, hx328_0⟩ := Kd.at_string HR0.out x5_1 p328 q328
                cases e328
                replace p328 := eq_true p328
                replace q328 := eq_true q328
                have p329 : 0 ≤ (x5_1 : Int) := of_decide_eq_true (by first | (with_reducible assumption) | assumption)
                have q329 : x5_1 < (l1.length : Int) := of_decide_eq_true (by first | (with_reducible assumption) | assumption)
                obtain ⟨ad329, e329, hx329_0⟩ := Kd.at_string HR1.out x5_1 p329 q329
                cases e329
                replace p329 := eq_true p329
                replace q329 := eq_true q329
                go_wp2
                repeat (go_quiet (fail); try go_wp2)
                go_roundg k1
                case measure => have := HK1.out; omega
                case rel => exact ⟨(wrap64 (x5_1 + 1)), (by first | rfl | (simp; done) | (simp [*]; done) | (simp; exact isEmpty_ne _)), H', ⟨by have := HK1.out; omega⟩, by repeat (first | exact Drawn0.refl _ | apply Drawn0.step)⟩
              · rw [if_neg c7] at H
                have c7b0 : ((rdOf ByteArray.empty l0 x5_1).toList == (rdOf ByteArray.empty l1 x5_1).toList) = false := beq_eq_false_iff_ne.mpr c7
                have c7b1 : ((rdOf ByteArray.empty l0 x5_1).toList != (rdOf ByteArray.empty l1 x5_1).toList) = true := bne_iff_ne.mpr c7
                obtain rfl := Option.some.inj H
                have p328 : 0 ≤ (x5_1 : Int) := of_decide_eq_true (by first | (with_reducible assumption) | assumption)
                have q328 : x5_1 < (l0.length : Int) := of_decide_eq_true (by first | (with_reducible assumption) | assumption)
                obtain ⟨ad328, e328, hx328_0⟩ := Kd.at_string HR0.out x5_1 p328 q328
                cases e328
                replace p328 := eq_true p328
                replace q328 := eq_true q328
                have p329 : 0 ≤ (x5_1 : Int) := of_decide_eq_true (by first | (with_reducible assumption) | assumption)
                have q329 : x5_1 < (l1.length : Int) := of_decide_eq_true (by first | (with_reducible assumption) | assumption)
                obtain ⟨ad329, e329, hx329_0⟩ := Kd.at_string HR1.out x5_1 p329 q329
                cases e329
                replace p329 := eq_true p329
                replace q329 := eq_true q329
                go_wp2
                repeat (go_quiet (fail); try go_wp2)
                go_ret
                exact ⟨by first | rfl | (simp; done) | (simp [*]; done), by repeat (first | exact Drawn0.refl _ | apply Drawn0.step)⟩
            · rw [if_neg c6] at H
              exact absurd H (by simp)
          · rw [if_neg c5] at H
            exact absurd H (by simp)
        · rw [if_neg c4] at H
          have c4b0 : decide (x5_1 < (l0.length : Int)) = false := decide_eq_false c4
          clear c4
          obtain rfl := Option.some.inj H
          go_wp2
          repeat (go_quiet (fail); try go_wp2)
          go_ret
          exact ⟨by first | rfl | (simp; done) | (simp [*]; done), by repeat (first | exact Drawn0.refl _ | apply Drawn0.step)⟩
  · rw [if_neg c3] at H
    have c3b0 : ((l0.length : Int) == (l1.length : Int)) = false := beq_eq_false_iff_ne.mpr c3
    have c3b1 : ((l0.length : Int) != (l1.length : Int)) = true := bne_iff_ne.mpr c3
    have c3b2 : (l0.length == l1.length) = false := by first | simpa using c3 | (simp at c3 ⊢; omega)
    obtain rfl := Option.some.inj H
    go_enter Try.func42, Try.ntmps42
    go_wp2
    repeat (go_quiet (fail); try go_wp2)
    go_ret
    exact ⟨by first | rfl | (simp; done) | (simp [*]; done), by repeat (first | exact Drawn0.refl _ | apply Drawn0.step)⟩

end Go.Proofs.Ytfkkmagiobfeiaa.P
