/- Printed for this claim by wip/myprint.py out of the translation: Lean functions with the answers of the Go functions, and proofs that the Go code comes to them. Lean checks it. -/
import Derived.Test.YtbbcklpenafefaaG0
import Derived.Test.YtbbcklpenafefaaGRef3
namespace Go.Proofs.Ytbbcklpenafefaa.P
open Go.RowKit Go.Proofs.YtbbcklpenafefaaW.PrintWords Go.Proofs.YtbbcklpenafefaaW.PrintLast Go.Proofs.YtbbcklpenafefaaW.PrintMore
attribute [local go_sem] max2_int min2_int max_two min_two max_three min_three max_four min_four   -- for this text's walks alone
set_option linter.unusedVariables false
set_option linter.unusedSimpArgs false

/-! ### letterlockref10_Leaf: function 19 -/
def letterlockref10_Leaf.f (k : Nat) (a0 : ByteArray) (a1 : Int) : Option (ByteArray × Int) := (letterlockref3_OfText.f k a0).bind fun bt207 => (if bt207.2 = 0 then ((letterlockref3_OfAtom.f k a1).bind fun t209 => ((letterlockref3_OfPair.f k bt207.1 t209).bind fun bt210 => (some (bt210.1, bt210.2)))) else (some ((⟨#[]⟩ : ByteArray), bt207.2)))
theorem letterlockref10_Leaf.mono : ∀ a0 a1 k, LeO (letterlockref10_Leaf.f k a0 a1) (letterlockref10_Leaf.f (k + 1) a0 a1) := by
  intro a0 a1 k
  unfold letterlockref10_Leaf.f
  repeat' first
      | (with_reducible exact letterlockref3_OfAtom.mono _ _)
      | (with_reducible exact letterlockref3_OfPair.mono _ _ _)
      | (with_reducible exact letterlockref3_OfText.mono _ _)
      | (with_reducible exact LeO.refl _)
      | (with_reducible exact LeO.none _)
      | (with_reducible refine LeO.ite ?_ ?_)
      | (with_reducible refine LeO.bind ?_ (fun _ => ?_))
      | exact letterlockref3_OfAtom.mono _ _
      | exact letterlockref3_OfPair.mono _ _ _
      | exact letterlockref3_OfText.mono _ _
      | exact LeO.none _
      | refine LeO.ite ?_ ?_
      | refine LeO.bind ?_ (fun _ => ?_)
set_option maxHeartbeats 8000000 in
set_option maxRecDepth 100000 in
theorem letterlockref10_Leaf.calls (k : Nat) (a0 : ByteArray) (a1 : Int) (r1 : ByteArray) (r2 : Int) (w : World) (h : letterlockref10_Leaf.f k a0 a1 = some (r1, r2)) :
    Calls Try.prog 19 #[.string a0, .int .u64 a1] w fun e w' => e = .returned (.tuple #[.string r1, .int .i64 r2]) ∧ Below w.heap.size w w' := by
  have HB := Aside0.mk (Below.refl w.heap.size w)
  have H : ((letterlockref3_OfText.f k a0).bind fun bt207 => (if bt207.2 = 0 then ((letterlockref3_OfAtom.f k a1).bind fun t209 => ((letterlockref3_OfPair.f k bt207.1 t209).bind fun bt210 => (some (bt210.1, bt210.2)))) else (some ((⟨#[]⟩ : ByteArray), bt207.2)))) = some (r1, r2) := h
  clear h
  replace H := Option.bind_eq_some_iff.mp H
  obtain ⟨⟨t207, t208⟩, A30, H⟩ := H
  replace H : (if t208 = 0 then ((letterlockref3_OfAtom.f k a1).bind fun t209 => ((letterlockref3_OfPair.f k t207 t209).bind fun bt210 => (some (bt210.1, bt210.2)))) else (some ((⟨#[]⟩ : ByteArray), t208))) = some (r1, r2) := H
  have A3 := Aside0.mk A30
  clear A30
  by_cases c4 : t208 = 0
  · rw [if_pos c4] at H
    have c4b0 : (t208 == 0) = true := beq_iff_eq.mpr c4
    have c4b1 : (t208 != 0) = false := bne_eq_false_iff_eq.mpr c4
    clear c4
    replace H := Option.bind_eq_some_iff.mp H
    obtain ⟨t209, A50, H⟩ := H
    replace H : ((letterlockref3_OfPair.f k t207 t209).bind fun bt210 => (some (bt210.1, bt210.2))) = some (r1, r2) := H
    have A5 := Aside0.mk A50
    clear A50
    replace H := Option.bind_eq_some_iff.mp H
    obtain ⟨⟨t210, t211⟩, A60, H⟩ := H
    replace H : (some (t210, t211)) = some (r1, r2) := H
    have A6 := Aside0.mk A60
    clear A60
    simp only [Option.some.injEq, Prod.mk.injEq] at H
    obtain ⟨rfl, rfl⟩ := H
    go_enter Try.func19, Try.ntmps19
    go_wp2_with (first | ((with_reducible refine gate_callee (f := 36) rfl ?_); refine goesL_ (some 10) rfl rfl Try.func36 (by kernel_rfl) rfl #[.string a0] rfl (by (try simp only [List.map_toArray, List.map_cons, List.map_nil]); first | done | rfl | (simp only [List.length_drop, List.length_take]; rfl)) ?_; (with_reducible refine (letterlockref3_OfText.calls k a0 t207 t208 _ A3.out).mono ?_); rintro e w7 ⟨rfl, hb⟩; refine ⟨_, rfl, ?_⟩; have n0_ := Aside0.mk (below_step (by repeat (first | (with_reducible first | exact HB.out | apply below_alloc | apply pw_below_drewN | apply below_drew1) | exact HB.out)) hb); clear HB; have HB := n0_; clear n0_; (try clear hb); (try clear hb2); (try clear hk); (try clear hi)) | ((with_reducible refine gate_callee (f := 38) rfl ?_); refine goesL_ (some 18) rfl rfl Try.func38 (by kernel_rfl) rfl #[.int .u64 a1] rfl (by (try simp only [List.map_toArray, List.map_cons, List.map_nil]); first | done | rfl | (simp only [List.length_drop, List.length_take]; rfl)) ?_; (with_reducible refine (letterlockref3_OfAtom.calls k a1 t209 _ A5.out).mono ?_); rintro e w8 ⟨rfl, hb⟩; refine ⟨_, rfl, ?_⟩; have n0_ := Aside0.mk (below_step (by repeat (first | (with_reducible first | exact HB.out | apply below_alloc | apply pw_below_drewN | apply below_drew1) | exact HB.out)) hb); clear HB; have HB := n0_; clear n0_; (try clear hb); (try clear hb2); (try clear hk); (try clear hi)) | ((with_reducible refine gate_callee (f := 37) rfl ?_); refine goesL_ (some 19) rfl rfl Try.func37 (by kernel_rfl) rfl #[.string t207, .string t209] rfl (by (try simp only [List.map_toArray, List.map_cons, List.map_nil]); first | done | rfl | (simp only [List.length_drop, List.length_take]; rfl)) ?_; (with_reducible refine (letterlockref3_OfPair.calls k t207 t209 t210 t211 _ A6.out).mono ?_); rintro e w9 ⟨rfl, hb⟩; refine ⟨_, rfl, ?_⟩; have n0_ := Aside0.mk (below_step (by repeat (first | (with_reducible first | exact HB.out | apply below_alloc | apply pw_below_drewN | apply below_drew1) | exact HB.out)) hb); clear HB; have HB := n0_; clear n0_; (try clear hb); (try clear hb2); (try clear hk); (try clear hi)))
    go_ret2
    exact ⟨by first | rfl | (simp [errW_none, errW_some] <;> rfl) | (simp [*, errW_none, errW_some] <;> rfl), by repeat (first | (with_reducible first | exact HB.out | apply below_alloc | apply pw_below_drewN | apply below_drew1) | exact HB.out)⟩
  · rw [if_neg c4] at H
    have c4b0 : (t208 == 0) = false := beq_eq_false_iff_ne.mpr c4
    have c4b1 : (t208 != 0) = true := bne_iff_ne.mpr c4
    simp only [Option.some.injEq, Prod.mk.injEq] at H
    obtain ⟨rfl, rfl⟩ := H
    go_enter Try.func19, Try.ntmps19
    go_wp2_with (first | ((with_reducible refine gate_callee (f := 36) rfl ?_); refine goesL_ (some 10) rfl rfl Try.func36 (by kernel_rfl) rfl #[.string a0] rfl (by (try simp only [List.map_toArray, List.map_cons, List.map_nil]); first | done | rfl | (simp only [List.length_drop, List.length_take]; rfl)) ?_; (with_reducible refine (letterlockref3_OfText.calls k a0 t207 t208 _ A3.out).mono ?_); rintro e w10 ⟨rfl, hb⟩; refine ⟨_, rfl, ?_⟩; have n0_ := Aside0.mk (below_step (by repeat (first | (with_reducible first | exact HB.out | apply below_alloc | apply pw_below_drewN | apply below_drew1) | exact HB.out)) hb); clear HB; have HB := n0_; clear n0_; (try clear hb); (try clear hb2); (try clear hk); (try clear hi)))
    go_ret2
    exact ⟨by first | rfl | (simp [errW_none, errW_some] <;> rfl) | (simp [*, errW_none, errW_some] <;> rfl), by repeat (first | (with_reducible first | exact HB.out | apply below_alloc | apply pw_below_drewN | apply below_drew1) | exact HB.out)⟩

end Go.Proofs.Ytbbcklpenafefaa.P
