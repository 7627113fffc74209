/- Printed for this claim by wip/myprint.py out of the translation: Lean functions with the answers of the Go functions, and proofs that the Go code comes to them. Lean checks it. -/
import Derived.Test.YtfkkmagiobfeiaaG0
import Derived.Test.YtfkkmagiobfeiaaGLaw3
import Derived.Test.YtfkkmagiobfeiaaGTerm
import Derived.Test.YtfkkmagiobfeiaaXTerm
namespace Go.Proofs.Ytfkkmagiobfeiaa.P
open Go.RowKit Go.Proofs.YtfkkmagiobfeiaaW.PrintWords Go.Proofs.YtfkkmagiobfeiaaW.PrintLast Go.Proofs.YtfkkmagiobfeiaaW.PrintMore
attribute [local go_sem] max2_int min2_int max_two min_two max_three min_three max_four min_four   -- for this text's walks alone
set_option linter.unusedVariables false
set_option linter.unusedSimpArgs false

/-! ### letterlocklaw3_TermPairs: function 3 -/
def letterlocklaw3_TermPairs.j0 : Nat → ByteArray → ByteArray → ByteArray → ByteArray → ByteArray → Int → ByteArray → Int → ByteArray → Int → ByteArray → ByteArray → ByteArray → Int → Bool → Option (Bool)
  | 0, _, _, _, _, _, _, _, _, _, _, _, _, _, _, _ => none
  | k + 1, x10, x11, x12, x13, x14, x15, x16, x17, x18, x19, x20, x22, x24, x25, x107 => if x107 = true then (if x15 = 0 then (if x17 = 0 then (if ((x15 == 0) == (x19 == 0)) = true then (some ((x17 == 0) == (x25 == 0))) else (some false)) else (if x17 = 10 then (if ((x15 == 0) == (x19 == 0)) = true then (some ((x17 == 0) == (x25 == 0))) else (some false)) else (some false))) else (if x15 = 10 then (if x17 = 0 then (if ((x15 == 0) == (x19 == 0)) = true then (some ((x17 == 0) == (x25 == 0))) else (some false)) else (if x17 = 10 then (if ((x15 == 0) == (x19 == 0)) = true then (some ((x17 == 0) == (x25 == 0))) else (some false)) else (some false))) else (some false))) else (if x10.toList = x12.toList then (if ((x14.toList == x16.toList) == (x11.toList == x13.toList)) = true then (if ((x18.toList == x20.toList) == (x11.toList == x13.toList)) = true then (if ((x22.toList == x24.toList) == (x11.toList == x13.toList)) = true then (if x14.toList = x18.toList then (some false) else (if x18.toList = x22.toList then (some false) else (if x14.toList = x22.toList then (some false) else ((term_Kind.f x14).bind fun t249 => (if t249 = 112 then ((term_Kind.f x18).bind fun t250 => (if t250 = 115 then ((term_Kind.f x22).bind fun t251 => (some (t251 == 103))) else (some false))) else (some false)))))) else (some false)) else (some false)) else (some false)) else (if ((x14.toList == x16.toList) == false) = true then (if ((x18.toList == x20.toList) == false) = true then (if ((x22.toList == x24.toList) == false) = true then (if x14.toList = x18.toList then (some false) else (if x18.toList = x22.toList then (some false) else (if x14.toList = x22.toList then (some false) else ((term_Kind.f x14).bind fun t252 => (if t252 = 112 then ((term_Kind.f x18).bind fun t253 => (if t253 = 115 then ((term_Kind.f x22).bind fun t254 => (some (t254 == 103))) else (some false))) else (some false)))))) else (some false)) else (some false)) else (some false)))
def letterlocklaw3_TermPairs.f (k : Nat) (l0 : List Int) (l1 : List Int) (l2 : List Int) (l3 : List Int) : Option (Bool) := (letterlocklaw3_shown.f k).bind fun t232 => (if t232 = true then ((letterlocklaw3_grown.f k l0).bind fun t233 => ((letterlocklaw3_grown.f k l1).bind fun t234 => ((letterlocklaw3_grown.f k l2).bind fun t235 => ((letterlocklaw3_grown.f k l3).bind fun t236 => (if (wrap64 ((wrap64 ((wrap64 ((t233.size : Int) + (t234.size : Int))) + (t235.size : Int))) + (t236.size : Int))) > 1500 then (some true) else ((term_OfPair.f t233 t234).bind fun bt237 => ((term_OfPair.f t235 t236).bind fun bt239 => ((term_Seal.f t233 t234).bind fun bt241 => ((term_Seal.f t235 t236).bind fun bt243 => ((term_Sign.f t233 t234).bind fun bt245 => ((term_Sign.f t235 t236).bind fun bt247 => (if bt237.2 = 0 then (if bt239.2 = 0 then (if bt241.2 = 0 then (if bt243.2 = 0 then (if bt245.2 = 0 then (letterlocklaw3_TermPairs.j0 k t233 t234 t235 t236 bt237.1 bt237.2 bt239.1 bt239.2 bt241.1 bt241.2 bt243.1 bt245.1 bt247.1 bt247.2 (bt247.2 != 0)) else (letterlocklaw3_TermPairs.j0 k t233 t234 t235 t236 bt237.1 bt237.2 bt239.1 bt239.2 bt241.1 bt241.2 bt243.1 bt245.1 bt247.1 bt247.2 true)) else (letterlocklaw3_TermPairs.j0 k t233 t234 t235 t236 bt237.1 bt237.2 bt239.1 bt239.2 bt241.1 bt241.2 bt243.1 bt245.1 bt247.1 bt247.2 true)) else (letterlocklaw3_TermPairs.j0 k t233 t234 t235 t236 bt237.1 bt237.2 bt239.1 bt239.2 bt241.1 bt241.2 bt243.1 bt245.1 bt247.1 bt247.2 true)) else (letterlocklaw3_TermPairs.j0 k t233 t234 t235 t236 bt237.1 bt237.2 bt239.1 bt239.2 bt241.1 bt241.2 bt243.1 bt245.1 bt247.1 bt247.2 true)) else (letterlocklaw3_TermPairs.j0 k t233 t234 t235 t236 bt237.1 bt237.2 bt239.1 bt239.2 bt241.1 bt241.2 bt243.1 bt245.1 bt247.1 bt247.2 true))))))))))))) else (some false))
theorem letterlocklaw3_TermPairs.mono_l : ∀ k, (∀ y0 y1 y2 y3 y4 y5 y6 y7 y8 y9 y10 y11 y12 y13 y14, LeO (letterlocklaw3_TermPairs.j0 k y0 y1 y2 y3 y4 y5 y6 y7 y8 y9 y10 y11 y12 y13 y14) (letterlocklaw3_TermPairs.j0 (k + 1) y0 y1 y2 y3 y4 y5 y6 y7 y8 y9 y10 y11 y12 y13 y14))
  | 0 => fun _ _ _ _ _ _ _ _ _ _ _ _ _ _ _ r h => by simp [letterlocklaw3_TermPairs.j0] at h
  | k + 1 => by
    have ih0 := letterlocklaw3_TermPairs.mono_l k
    · intro y0 y1 y2 y3 y4 y5 y6 y7 y8 y9 y10 y11 y12 y13 y14
      unfold letterlocklaw3_TermPairs.j0
      repeat' first
      | (with_reducible exact ih0 _ _ _ _ _ _ _ _ _ _ _ _ _ _ _)
      | (with_reducible exact letterlocklaw3_grown.mono _ _)
      | (with_reducible exact letterlocklaw3_shown.mono _)
      | (with_reducible exact LeO.refl _)
      | (with_reducible exact LeO.none _)
      | (with_reducible refine LeO.ite ?_ ?_)
      | (with_reducible refine LeO.bind ?_ (fun _ => ?_))
      | exact ih0 _ _ _ _ _ _ _ _ _ _ _ _ _ _ _
      | exact letterlocklaw3_grown.mono _ _
      | exact letterlocklaw3_shown.mono _
      | exact LeO.none _
      | refine LeO.ite ?_ ?_
      | refine LeO.bind ?_ (fun _ => ?_)
theorem letterlocklaw3_TermPairs.mono : ∀ a0 a1 a2 a3 k, LeO (letterlocklaw3_TermPairs.f k a0 a1 a2 a3) (letterlocklaw3_TermPairs.f (k + 1) a0 a1 a2 a3) := by
  intro a0 a1 a2 a3 k
  have ih0 := letterlocklaw3_TermPairs.mono_l k
  unfold letterlocklaw3_TermPairs.f
  repeat' first
      | (with_reducible exact ih0 _ _ _ _ _ _ _ _ _ _ _ _ _ _ _)
      | (with_reducible exact letterlocklaw3_grown.mono _ _)
      | (with_reducible exact letterlocklaw3_shown.mono _)
      | (with_reducible exact LeO.refl _)
      | (with_reducible exact LeO.none _)
      | (with_reducible refine LeO.ite ?_ ?_)
      | (with_reducible refine LeO.bind ?_ (fun _ => ?_))
      | exact ih0 _ _ _ _ _ _ _ _ _ _ _ _ _ _ _
      | exact letterlocklaw3_grown.mono _ _
      | exact letterlocklaw3_shown.mono _
      | exact LeO.none _
      | refine LeO.ite ?_ ?_
      | refine LeO.bind ?_ (fun _ => ?_)
set_option maxHeartbeats 8000000 in
set_option maxRecDepth 100000 in
theorem letterlocklaw3_TermPairs.calls (k : Nat) (A0 : Option Addr) (c0 : Nat) (l0 : List Int) (A1 : Option Addr) (c1 : Nat) (l1 : List Int) (A2 : Option Addr) (c2 : Nat) (l2 : List Int) (A3 : Option Addr) (c3 : Nat) (l3 : List Int) (r : Bool) (w : World) (hr0 : Kd.C (Kd.int .i64) w A0 l0.length l0) (hc0 : l0.length ≤ c0) (hr1 : Kd.C (Kd.int .i64) w A1 l1.length l1) (hc1 : l1.length ≤ c1) (hr2 : Kd.C (Kd.int .i64) w A2 l2.length l2) (hc2 : l2.length ≤ c2) (hr3 : Kd.C (Kd.int .i64) w A3 l3.length l3) (hc3 : l3.length ≤ c3) (h : letterlocklaw3_TermPairs.f k l0 l1 l2 l3 = some r) :
    Calls Try.prog 3 #[.slice A0 l0.length c0, .slice A1 l1.length c1, .slice A2 l2.length c2, .slice A3 l3.length c3] w fun e w' => e = .returned (.bool r) ∧ Below w.heap.size w w' := by
  have HR0 := Aside0.mk hr0
  have HC0 := Aside0.mk hc0
  clear hr0 hc0
  have HR1 := Aside0.mk hr1
  have HC1 := Aside0.mk hc1
  clear hr1 hc1
  have HR2 := Aside0.mk hr2
  have HC2 := Aside0.mk hc2
  clear hr2 hc2
  have HR3 := Aside0.mk hr3
  have HC3 := Aside0.mk hc3
  clear hr3 hc3
  have HB := Aside0.mk (Below.refl w.heap.size w)
  have H : ((letterlocklaw3_shown.f k).bind fun t232 => (if t232 = true then ((letterlocklaw3_grown.f k l0).bind fun t233 => ((letterlocklaw3_grown.f k l1).bind fun t234 => ((letterlocklaw3_grown.f k l2).bind fun t235 => ((letterlocklaw3_grown.f k l3).bind fun t236 => (if (wrap64 ((wrap64 ((wrap64 ((t233.size : Int) + (t234.size : Int))) + (t235.size : Int))) + (t236.size : Int))) > 1500 then (some true) else ((term_OfPair.f t233 t234).bind fun bt237 => ((term_OfPair.f t235 t236).bind fun bt239 => ((term_Seal.f t233 t234).bind fun bt241 => ((term_Seal.f t235 t236).bind fun bt243 => ((term_Sign.f t233 t234).bind fun bt245 => ((term_Sign.f t235 t236).bind fun bt247 => (if bt237.2 = 0 then (if bt239.2 = 0 then (if bt241.2 = 0 then (if bt243.2 = 0 then (if bt245.2 = 0 then (letterlocklaw3_TermPairs.j0 k t233 t234 t235 t236 bt237.1 bt237.2 bt239.1 bt239.2 bt241.1 bt241.2 bt243.1 bt245.1 bt247.1 bt247.2 (bt247.2 != 0)) else (letterlocklaw3_TermPairs.j0 k t233 t234 t235 t236 bt237.1 bt237.2 bt239.1 bt239.2 bt241.1 bt241.2 bt243.1 bt245.1 bt247.1 bt247.2 true)) else (letterlocklaw3_TermPairs.j0 k t233 t234 t235 t236 bt237.1 bt237.2 bt239.1 bt239.2 bt241.1 bt241.2 bt243.1 bt245.1 bt247.1 bt247.2 true)) else (letterlocklaw3_TermPairs.j0 k t233 t234 t235 t236 bt237.1 bt237.2 bt239.1 bt239.2 bt241.1 bt241.2 bt243.1 bt245.1 bt247.1 bt247.2 true)) else (letterlocklaw3_TermPairs.j0 k t233 t234 t235 t236 bt237.1 bt237.2 bt239.1 bt239.2 bt241.1 bt241.2 bt243.1 bt245.1 bt247.1 bt247.2 true)) else (letterlocklaw3_TermPairs.j0 k t233 t234 t235 t236 bt237.1 bt237.2 bt239.1 bt239.2 bt241.1 bt241.2 bt243.1 bt245.1 bt247.1 bt247.2 true))))))))))))) else (some false))) = some r := h
  clear h
  replace H := Option.bind_eq_some_iff.mp H
  obtain ⟨t232, A50, H⟩ := H
  replace H : (if t232 = true then ((letterlocklaw3_grown.f k l0).bind fun t233 => ((letterlocklaw3_grown.f k l1).bind fun t234 => ((letterlocklaw3_grown.f k l2).bind fun t235 => ((letterlocklaw3_grown.f k l3).bind fun t236 => (if (wrap64 ((wrap64 ((wrap64 ((t233.size : Int) + (t234.size : Int))) + (t235.size : Int))) + (t236.size : Int))) > 1500 then (some true) else ((term_OfPair.f t233 t234).bind fun bt237 => ((term_OfPair.f t235 t236).bind fun bt239 => ((term_Seal.f t233 t234).bind fun bt241 => ((term_Seal.f t235 t236).bind fun bt243 => ((term_Sign.f t233 t234).bind fun bt245 => ((term_Sign.f t235 t236).bind fun bt247 => (if bt237.2 = 0 then (if bt239.2 = 0 then (if bt241.2 = 0 then (if bt243.2 = 0 then (if bt245.2 = 0 then (letterlocklaw3_TermPairs.j0 k t233 t234 t235 t236 bt237.1 bt237.2 bt239.1 bt239.2 bt241.1 bt241.2 bt243.1 bt245.1 bt247.1 bt247.2 (bt247.2 != 0)) else (letterlocklaw3_TermPairs.j0 k t233 t234 t235 t236 bt237.1 bt237.2 bt239.1 bt239.2 bt241.1 bt241.2 bt243.1 bt245.1 bt247.1 bt247.2 true)) else (letterlocklaw3_TermPairs.j0 k t233 t234 t235 t236 bt237.1 bt237.2 bt239.1 bt239.2 bt241.1 bt241.2 bt243.1 bt245.1 bt247.1 bt247.2 true)) else (letterlocklaw3_TermPairs.j0 k t233 t234 t235 t236 bt237.1 bt237.2 bt239.1 bt239.2 bt241.1 bt241.2 bt243.1 bt245.1 bt247.1 bt247.2 true)) else (letterlocklaw3_TermPairs.j0 k t233 t234 t235 t236 bt237.1 bt237.2 bt239.1 bt239.2 bt241.1 bt241.2 bt243.1 bt245.1 bt247.1 bt247.2 true)) else (letterlocklaw3_TermPairs.j0 k t233 t234 t235 t236 bt237.1 bt237.2 bt239.1 bt239.2 bt241.1 bt241.2 bt243.1 bt245.1 bt247.1 bt247.2 true))))))))))))) else (some false)) = some r := H
  have A5 := Aside0.mk A50
  clear A50
  by_cases c6 : t232 = true
  · subst c6
    have H1 : ((letterlocklaw3_grown.f k l0).bind fun t233 => ((letterlocklaw3_grown.f k l1).bind fun t234 => ((letterlocklaw3_grown.f k l2).bind fun t235 => ((letterlocklaw3_grown.f k l3).bind fun t236 => (if (wrap64 ((wrap64 ((wrap64 ((t233.size : Int) + (t234.size : Int))) + (t235.size : Int))) + (t236.size : Int))) > 1500 then (some true) else ((term_OfPair.f t233 t234).bind fun bt237 => ((term_OfPair.f t235 t236).bind fun bt239 => ((term_Seal.f t233 t234).bind fun bt241 => ((term_Seal.f t235 t236).bind fun bt243 => ((term_Sign.f t233 t234).bind fun bt245 => ((term_Sign.f t235 t236).bind fun bt247 => (if bt237.2 = 0 then (if bt239.2 = 0 then (if bt241.2 = 0 then (if bt243.2 = 0 then (if bt245.2 = 0 then (letterlocklaw3_TermPairs.j0 k t233 t234 t235 t236 bt237.1 bt237.2 bt239.1 bt239.2 bt241.1 bt241.2 bt243.1 bt245.1 bt247.1 bt247.2 (bt247.2 != 0)) else (letterlocklaw3_TermPairs.j0 k t233 t234 t235 t236 bt237.1 bt237.2 bt239.1 bt239.2 bt241.1 bt241.2 bt243.1 bt245.1 bt247.1 bt247.2 true)) else (letterlocklaw3_TermPairs.j0 k t233 t234 t235 t236 bt237.1 bt237.2 bt239.1 bt239.2 bt241.1 bt241.2 bt243.1 bt245.1 bt247.1 bt247.2 true)) else (letterlocklaw3_TermPairs.j0 k t233 t234 t235 t236 bt237.1 bt237.2 bt239.1 bt239.2 bt241.1 bt241.2 bt243.1 bt245.1 bt247.1 bt247.2 true)) else (letterlocklaw3_TermPairs.j0 k t233 t234 t235 t236 bt237.1 bt237.2 bt239.1 bt239.2 bt241.1 bt241.2 bt243.1 bt245.1 bt247.1 bt247.2 true)) else (letterlocklaw3_TermPairs.j0 k t233 t234 t235 t236 bt237.1 bt237.2 bt239.1 bt239.2 bt241.1 bt241.2 bt243.1 bt245.1 bt247.1 bt247.2 true))))))))))))) = some r := by rw [if_pos rfl] at H; exact H
    clear H
    have H := H1
    clear H1
    replace H := Option.bind_eq_some_iff.mp H
    obtain ⟨t233, A70, H⟩ := H
    replace H : ((letterlocklaw3_grown.f k l1).bind fun t234 => ((letterlocklaw3_grown.f k l2).bind fun t235 => ((letterlocklaw3_grown.f k l3).bind fun t236 => (if (wrap64 ((wrap64 ((wrap64 ((t233.size : Int) + (t234.size : Int))) + (t235.size : Int))) + (t236.size : Int))) > 1500 then (some true) else ((term_OfPair.f t233 t234).bind fun bt237 => ((term_OfPair.f t235 t236).bind fun bt239 => ((term_Seal.f t233 t234).bind fun bt241 => ((term_Seal.f t235 t236).bind fun bt243 => ((term_Sign.f t233 t234).bind fun bt245 => ((term_Sign.f t235 t236).bind fun bt247 => (if bt237.2 = 0 then (if bt239.2 = 0 then (if bt241.2 = 0 then (if bt243.2 = 0 then (if bt245.2 = 0 then (letterlocklaw3_TermPairs.j0 k t233 t234 t235 t236 bt237.1 bt237.2 bt239.1 bt239.2 bt241.1 bt241.2 bt243.1 bt245.1 bt247.1 bt247.2 (bt247.2 != 0)) else (letterlocklaw3_TermPairs.j0 k t233 t234 t235 t236 bt237.1 bt237.2 bt239.1 bt239.2 bt241.1 bt241.2 bt243.1 bt245.1 bt247.1 bt247.2 true)) else (letterlocklaw3_TermPairs.j0 k t233 t234 t235 t236 bt237.1 bt237.2 bt239.1 bt239.2 bt241.1 bt241.2 bt243.1 bt245.1 bt247.1 bt247.2 true)) else (letterlocklaw3_TermPairs.j0 k t233 t234 t235 t236 bt237.1 bt237.2 bt239.1 bt239.2 bt241.1 bt241.2 bt243.1 bt245.1 bt247.1 bt247.2 true)) else (letterlocklaw3_TermPairs.j0 k t233 t234 t235 t236 bt237.1 bt237.2 bt239.1 bt239.2 bt241.1 bt241.2 bt243.1 bt245.1 bt247.1 bt247.2 true)) else (letterlocklaw3_TermPairs.j0 k t233 t234 t235 t236 bt237.1 bt237.2 bt239.1 bt239.2 bt241.1 bt241.2 bt243.1 bt245.1 bt247.1 bt247.2 true)))))))))))) = some r := H
    have A7 := Aside0.mk A70
    clear A70
    replace H := Option.bind_eq_some_iff.mp H
    obtain ⟨t234, A80, H⟩ := H
    replace H : ((letterlocklaw3_grown.f k l2).bind fun t235 => ((letterlocklaw3_grown.f k l3).bind fun t236 => (if (wrap64 ((wrap64 ((wrap64 ((t233.size : Int) + (t234.size : Int))) + (t235.size : Int))) + (t236.size : Int))) > 1500 then (some true) else ((term_OfPair.f t233 t234).bind fun bt237 => ((term_OfPair.f t235 t236).bind fun bt239 => ((term_Seal.f t233 t234).bind fun bt241 => ((term_Seal.f t235 t236).bind fun bt243 => ((term_Sign.f t233 t234).bind fun bt245 => ((term_Sign.f t235 t236).bind fun bt247 => (if bt237.2 = 0 then (if bt239.2 = 0 then (if bt241.2 = 0 then (if bt243.2 = 0 then (if bt245.2 = 0 then (letterlocklaw3_TermPairs.j0 k t233 t234 t235 t236 bt237.1 bt237.2 bt239.1 bt239.2 bt241.1 bt241.2 bt243.1 bt245.1 bt247.1 bt247.2 (bt247.2 != 0)) else (letterlocklaw3_TermPairs.j0 k t233 t234 t235 t236 bt237.1 bt237.2 bt239.1 bt239.2 bt241.1 bt241.2 bt243.1 bt245.1 bt247.1 bt247.2 true)) else (letterlocklaw3_TermPairs.j0 k t233 t234 t235 t236 bt237.1 bt237.2 bt239.1 bt239.2 bt241.1 bt241.2 bt243.1 bt245.1 bt247.1 bt247.2 true)) else (letterlocklaw3_TermPairs.j0 k t233 t234 t235 t236 bt237.1 bt237.2 bt239.1 bt239.2 bt241.1 bt241.2 bt243.1 bt245.1 bt247.1 bt247.2 true)) else (letterlocklaw3_TermPairs.j0 k t233 t234 t235 t236 bt237.1 bt237.2 bt239.1 bt239.2 bt241.1 bt241.2 bt243.1 bt245.1 bt247.1 bt247.2 true)) else (letterlocklaw3_TermPairs.j0 k t233 t234 t235 t236 bt237.1 bt237.2 bt239.1 bt239.2 bt241.1 bt241.2 bt243.1 bt245.1 bt247.1 bt247.2 true))))))))))) = some r := H
    have A8 := Aside0.mk A80
    clear A80
    replace H := Option.bind_eq_some_iff.mp H
    obtain ⟨t235, A90, H⟩ := H
    replace H : ((letterlocklaw3_grown.f k l3).bind fun t236 => (if (wrap64 ((wrap64 ((wrap64 ((t233.size : Int) + (t234.size : Int))) + (t235.size : Int))) + (t236.size : Int))) > 1500 then (some true) else ((term_OfPair.f t233 t234).bind fun bt237 => ((term_OfPair.f t235 t236).bind fun bt239 => ((term_Seal.f t233 t234).bind fun bt241 => ((term_Seal.f t235 t236).bind fun bt243 => ((term_Sign.f t233 t234).bind fun bt245 => ((term_Sign.f t235 t236).bind fun bt247 => (if bt237.2 = 0 then (if bt239.2 = 0 then (if bt241.2 = 0 then (if bt243.2 = 0 then (if bt245.2 = 0 then (letterlocklaw3_TermPairs.j0 k t233 t234 t235 t236 bt237.1 bt237.2 bt239.1 bt239.2 bt241.1 bt241.2 bt243.1 bt245.1 bt247.1 bt247.2 (bt247.2 != 0)) else (letterlocklaw3_TermPairs.j0 k t233 t234 t235 t236 bt237.1 bt237.2 bt239.1 bt239.2 bt241.1 bt241.2 bt243.1 bt245.1 bt247.1 bt247.2 true)) else (letterlocklaw3_TermPairs.j0 k t233 t234 t235 t236 bt237.1 bt237.2 bt239.1 bt239.2 bt241.1 bt241.2 bt243.1 bt245.1 bt247.1 bt247.2 true)) else (letterlocklaw3_TermPairs.j0 k t233 t234 t235 t236 bt237.1 bt237.2 bt239.1 bt239.2 bt241.1 bt241.2 bt243.1 bt245.1 bt247.1 bt247.2 true)) else (letterlocklaw3_TermPairs.j0 k t233 t234 t235 t236 bt237.1 bt237.2 bt239.1 bt239.2 bt241.1 bt241.2 bt243.1 bt245.1 bt247.1 bt247.2 true)) else (letterlocklaw3_TermPairs.j0 k t233 t234 t235 t236 bt237.1 bt237.2 bt239.1 bt239.2 bt241.1 bt241.2 bt243.1 bt245.1 bt247.1 bt247.2 true)))))))))) = some r := H
    have A9 := Aside0.mk A90
    clear A90
    replace H := Option.bind_eq_some_iff.mp H
    obtain ⟨t236, A100, H⟩ := H
    replace H : (if (wrap64 ((wrap64 ((wrap64 ((t233.size : Int) + (t234.size : Int))) + (t235.size : Int))) + (t236.size : Int))) > 1500 then (some true) else ((term_OfPair.f t233 t234).bind fun bt237 => ((term_OfPair.f t235 t236).bind fun bt239 => ((term_Seal.f t233 t234).bind fun bt241 => ((term_Seal.f t235 t236).bind fun bt243 => ((term_Sign.f t233 t234).bind fun bt245 => ((term_Sign.f t235 t236).bind fun bt247 => (if bt237.2 = 0 then (if bt239.2 = 0 then (if bt241.2 = 0 then (if bt243.2 = 0 then (if bt245.2 = 0 then (letterlocklaw3_TermPairs.j0 k t233 t234 t235 t236 bt237.1 bt237.2 bt239.1 bt239.2 bt241.1 bt241.2 bt243.1 bt245.1 bt247.1 bt247.2 (bt247.2 != 0)) else (letterlocklaw3_TermPairs.j0 k t233 t234 t235 t236 bt237.1 bt237.2 bt239.1 bt239.2 bt241.1 bt241.2 bt243.1 bt245.1 bt247.1 bt247.2 true)) else (letterlocklaw3_TermPairs.j0 k t233 t234 t235 t236 bt237.1 bt237.2 bt239.1 bt239.2 bt241.1 bt241.2 bt243.1 bt245.1 bt247.1 bt247.2 true)) else (letterlocklaw3_TermPairs.j0 k t233 t234 t235 t236 bt237.1 bt237.2 bt239.1 bt239.2 bt241.1 bt241.2 bt243.1 bt245.1 bt247.1 bt247.2 true)) else (letterlocklaw3_TermPairs.j0 k t233 t234 t235 t236 bt237.1 bt237.2 bt239.1 bt239.2 bt241.1 bt241.2 bt243.1 bt245.1 bt247.1 bt247.2 true)) else (letterlocklaw3_TermPairs.j0 k t233 t234 t235 t236 bt237.1 bt237.2 bt239.1 bt239.2 bt241.1 bt241.2 bt243.1 bt245.1 bt247.1 bt247.2 true))))))))) = some r := H
    have A10 := Aside0.mk A100
    clear A100
    by_cases c11 : (wrap64 ((wrap64 ((wrap64 ((t233.size : Int) + (t234.size : Int))) + (t235.size : Int))) + (t236.size : Int))) > 1500
    · rw [if_pos c11] at H
      have c11b0 : decide (1500 < (wrap64 ((wrap64 ((wrap64 ((t233.size : Int) + (t234.size : Int))) + (t235.size : Int))) + (t236.size : Int)))) = true := decide_eq_true c11
      clear c11
      obtain rfl := Option.some.inj H
      go_enter Try.func3, Try.ntmps3
      go_wp2_with (first | ((with_reducible refine gate_callee (f := 10) rfl ?_); refine goesL_ (some 27) rfl rfl Try.func10 (by kernel_rfl) rfl #[] rfl (by (try simp only [List.map_toArray, List.map_cons, List.map_nil]); first | done | rfl | (simp only [List.length_drop, List.length_take]; rfl)) ?_; (with_reducible refine (letterlocklaw3_shown.calls k  true _ A5.out).mono ?_); rintro e w12 ⟨rfl, hb⟩; refine ⟨_, rfl, ?_⟩; have n0_ := Aside0.mk (below_step (by repeat (first | (with_reducible first | exact HB.out | apply below_alloc | apply pw_below_drewN | apply below_drew1) | exact HB.out)) hb); clear HB; have HB := n0_; clear n0_; (try clear hb); (try clear hb2); (try clear hk); (try clear hi)) | ((with_reducible refine gate_callee (f := 11) rfl ?_); refine goesL_ (some 31) rfl rfl Try.func11 (by kernel_rfl) rfl #[.slice A0 l0.length c0] rfl (by (try simp only [List.map_toArray, List.map_cons, List.map_nil]); first | done | rfl | (simp only [List.length_drop, List.length_take]; rfl)) ?_; (with_reducible refine (letterlocklaw3_grown.calls k _ _ l0 t233 _ ?side1 ?side2 A7.out).mono ?_); (case side1 => repeat (first | exact (Kd.C_below HR0.out HB.out) | (with_reducible refine Kd.C_alloc ?_ _) | (with_reducible refine Kd.C_drewN ?_ _) | (with_reducible refine Kd.C_drew ?_))); (case side2 => exact HC0.out); rintro e w13 ⟨rfl, hb⟩; refine ⟨_, rfl, ?_⟩; have n0_ := Aside0.mk (below_step (by repeat (first | (with_reducible first | exact HB.out | apply below_alloc | apply pw_below_drewN | apply below_drew1) | exact HB.out)) hb); clear HB; have HB := n0_; clear n0_; (try clear hb); (try clear hb2); (try clear hk); (try clear hi)) | ((with_reducible refine gate_callee (f := 11) rfl ?_); refine goesL_ (some 33) rfl rfl Try.func11 (by kernel_rfl) rfl #[.slice A1 l1.length c1] rfl (by (try simp only [List.map_toArray, List.map_cons, List.map_nil]); first | done | rfl | (simp only [List.length_drop, List.length_take]; rfl)) ?_; (with_reducible refine (letterlocklaw3_grown.calls k _ _ l1 t234 _ ?side1 ?side2 A8.out).mono ?_); (case side1 => repeat (first | exact (Kd.C_below HR1.out HB.out) | (with_reducible refine Kd.C_alloc ?_ _) | (with_reducible refine Kd.C_drewN ?_ _) | (with_reducible refine Kd.C_drew ?_))); (case side2 => exact HC1.out); rintro e w14 ⟨rfl, hb⟩; refine ⟨_, rfl, ?_⟩; have n0_ := Aside0.mk (below_step (by repeat (first | (with_reducible first | exact HB.out | apply below_alloc | apply pw_below_drewN | apply below_drew1) | exact HB.out)) hb); clear HB; have HB := n0_; clear n0_; (try clear hb); (try clear hb2); (try clear hk); (try clear hi)) | ((with_reducible refine gate_callee (f := 11) rfl ?_); refine goesL_ (some 35) rfl rfl Try.func11 (by kernel_rfl) rfl #[.slice A2 l2.length c2] rfl (by (try simp only [List.map_toArray, List.map_cons, List.map_nil]); first | done | rfl | (simp only [List.length_drop, List.length_take]; rfl)) ?_; (with_reducible refine (letterlocklaw3_grown.calls k _ _ l2 t235 _ ?side1 ?side2 A9.out).mono ?_); (case side1 => repeat (first | exact (Kd.C_below HR2.out HB.out) | (with_reducible refine Kd.C_alloc ?_ _) | (with_reducible refine Kd.C_drewN ?_ _) | (with_reducible refine Kd.C_drew ?_))); (case side2 => exact HC2.out); rintro e w15 ⟨rfl, hb⟩; refine ⟨_, rfl, ?_⟩; have n0_ := Aside0.mk (below_step (by repeat (first | (with_reducible first | exact HB.out | apply below_alloc | apply pw_below_drewN | apply below_drew1) | exact HB.out)) hb); clear HB; have HB := n0_; clear n0_; (try clear hb); (try clear hb2); (try clear hk); (try clear hi)) | ((with_reducible refine gate_callee (f := 11) rfl ?_); refine goesL_ (some 37) rfl rfl Try.func11 (by kernel_rfl) rfl #[.slice A3 l3.length c3] rfl (by (try simp only [List.map_toArray, List.map_cons, List.map_nil]); first | done | rfl | (simp only [List.length_drop, List.length_take]; rfl)) ?_; (with_reducible refine (letterlocklaw3_grown.calls k _ _ l3 t236 _ ?side1 ?side2 A10.out).mono ?_); (case side1 => repeat (first | exact (Kd.C_below HR3.out HB.out) | (with_reducible refine Kd.C_alloc ?_ _) | (with_reducible refine Kd.C_drewN ?_ _) | (with_reducible refine Kd.C_drew ?_))); (case side2 => exact HC3.out); rintro e w16 ⟨rfl, hb⟩; refine ⟨_, rfl, ?_⟩; have n0_ := Aside0.mk (below_step (by repeat (first | (with_reducible first | exact HB.out | apply below_alloc | apply pw_below_drewN | apply below_drew1) | exact HB.out)) hb); clear HB; have HB := n0_; clear n0_; (try clear hb); (try clear hb2); (try clear hk); (try clear hi)))
      go_ret
      exact ⟨by first | rfl | (simp [errW_none, errW_some] <;> rfl) | (simp [*, errW_none, errW_some] <;> rfl), by repeat (first | (with_reducible first | exact HB.out | apply below_alloc | apply pw_below_drewN | apply below_drew1) | exact HB.out)⟩
    · rw [if_neg c11] at H
      have c11b0 : decide (1500 < (wrap64 ((wrap64 ((wrap64 ((t233.size : Int) + (t234.size : Int))) + (t235.size : Int))) + (t236.size : Int)))) = false := decide_eq_false c11
      clear c11
      replace H := Option.bind_eq_some_iff.mp H
      obtain ⟨⟨t237, t238⟩, A170, H⟩ := H
      replace H : ((term_OfPair.f t235 t236).bind fun bt239 => ((term_Seal.f t233 t234).bind fun bt241 => ((term_Seal.f t235 t236).bind fun bt243 => ((term_Sign.f t233 t234).bind fun bt245 => ((term_Sign.f t235 t236).bind fun bt247 => (if t238 = 0 then (if bt239.2 = 0 then (if bt241.2 = 0 then (if bt243.2 = 0 then (if bt245.2 = 0 then (letterlocklaw3_TermPairs.j0 k t233 t234 t235 t236 t237 t238 bt239.1 bt239.2 bt241.1 bt241.2 bt243.1 bt245.1 bt247.1 bt247.2 (bt247.2 != 0)) else (letterlocklaw3_TermPairs.j0 k t233 t234 t235 t236 t237 t238 bt239.1 bt239.2 bt241.1 bt241.2 bt243.1 bt245.1 bt247.1 bt247.2 true)) else (letterlocklaw3_TermPairs.j0 k t233 t234 t235 t236 t237 t238 bt239.1 bt239.2 bt241.1 bt241.2 bt243.1 bt245.1 bt247.1 bt247.2 true)) else (letterlocklaw3_TermPairs.j0 k t233 t234 t235 t236 t237 t238 bt239.1 bt239.2 bt241.1 bt241.2 bt243.1 bt245.1 bt247.1 bt247.2 true)) else (letterlocklaw3_TermPairs.j0 k t233 t234 t235 t236 t237 t238 bt239.1 bt239.2 bt241.1 bt241.2 bt243.1 bt245.1 bt247.1 bt247.2 true)) else (letterlocklaw3_TermPairs.j0 k t233 t234 t235 t236 t237 t238 bt239.1 bt239.2 bt241.1 bt241.2 bt243.1 bt245.1 bt247.1 bt247.2 true))))))) = some r := H
      have A17 := Aside0.mk A170
      clear A170
      replace H := Option.bind_eq_some_iff.mp H
      obtain ⟨⟨t239, t240⟩, A180, H⟩ := H
      replace H : ((term_Seal.f t233 t234).bind fun bt241 => ((term_Seal.f t235 t236).bind fun bt243 => ((term_Sign.f t233 t234).bind fun bt245 => ((term_Sign.f t235 t236).bind fun bt247 => (if t238 = 0 then (if t240 = 0 then (if bt241.2 = 0 then (if bt243.2 = 0 then (if bt245.2 = 0 then (letterlocklaw3_TermPairs.j0 k t233 t234 t235 t236 t237 t238 t239 t240 bt241.1 bt241.2 bt243.1 bt245.1 bt247.1 bt247.2 (bt247.2 != 0)) else (letterlocklaw3_TermPairs.j0 k t233 t234 t235 t236 t237 t238 t239 t240 bt241.1 bt241.2 bt243.1 bt245.1 bt247.1 bt247.2 true)) else (letterlocklaw3_TermPairs.j0 k t233 t234 t235 t236 t237 t238 t239 t240 bt241.1 bt241.2 bt243.1 bt245.1 bt247.1 bt247.2 true)) else (letterlocklaw3_TermPairs.j0 k t233 t234 t235 t236 t237 t238 t239 t240 bt241.1 bt241.2 bt243.1 bt245.1 bt247.1 bt247.2 true)) else (letterlocklaw3_TermPairs.j0 k t233 t234 t235 t236 t237 t238 t239 t240 bt241.1 bt241.2 bt243.1 bt245.1 bt247.1 bt247.2 true)) else (letterlocklaw3_TermPairs.j0 k t233 t234 t235 t236 t237 t238 t239 t240 bt241.1 bt241.2 bt243.1 bt245.1 bt247.1 bt247.2 true)))))) = some r := H
      have A18 := Aside0.mk A180
      clear A180
      replace H := Option.bind_eq_some_iff.mp H
      obtain ⟨⟨t241, t242⟩, A190, H⟩ := H
      replace H : ((term_Seal.f t235 t236).bind fun bt243 => ((term_Sign.f t233 t234).bind fun bt245 => ((term_Sign.f t235 t236).bind fun bt247 => (if t238 = 0 then (if t240 = 0 then (if t242 = 0 then (if bt243.2 = 0 then (if bt245.2 = 0 then (letterlocklaw3_TermPairs.j0 k t233 t234 t235 t236 t237 t238 t239 t240 t241 t242 bt243.1 bt245.1 bt247.1 bt247.2 (bt247.2 != 0)) else (letterlocklaw3_TermPairs.j0 k t233 t234 t235 t236 t237 t238 t239 t240 t241 t242 bt243.1 bt245.1 bt247.1 bt247.2 true)) else (letterlocklaw3_TermPairs.j0 k t233 t234 t235 t236 t237 t238 t239 t240 t241 t242 bt243.1 bt245.1 bt247.1 bt247.2 true)) else (letterlocklaw3_TermPairs.j0 k t233 t234 t235 t236 t237 t238 t239 t240 t241 t242 bt243.1 bt245.1 bt247.1 bt247.2 true)) else (letterlocklaw3_TermPairs.j0 k t233 t234 t235 t236 t237 t238 t239 t240 t241 t242 bt243.1 bt245.1 bt247.1 bt247.2 true)) else (letterlocklaw3_TermPairs.j0 k t233 t234 t235 t236 t237 t238 t239 t240 t241 t242 bt243.1 bt245.1 bt247.1 bt247.2 true))))) = some r := H
      have A19 := Aside0.mk A190
      clear A190
      replace H := Option.bind_eq_some_iff.mp H
      obtain ⟨⟨t243, t244⟩, A200, H⟩ := H
      replace H : ((term_Sign.f t233 t234).bind fun bt245 => ((term_Sign.f t235 t236).bind fun bt247 => (if t238 = 0 then (if t240 = 0 then (if t242 = 0 then (if t244 = 0 then (if bt245.2 = 0 then (letterlocklaw3_TermPairs.j0 k t233 t234 t235 t236 t237 t238 t239 t240 t241 t242 t243 bt245.1 bt247.1 bt247.2 (bt247.2 != 0)) else (letterlocklaw3_TermPairs.j0 k t233 t234 t235 t236 t237 t238 t239 t240 t241 t242 t243 bt245.1 bt247.1 bt247.2 true)) else (letterlocklaw3_TermPairs.j0 k t233 t234 t235 t236 t237 t238 t239 t240 t241 t242 t243 bt245.1 bt247.1 bt247.2 true)) else (letterlocklaw3_TermPairs.j0 k t233 t234 t235 t236 t237 t238 t239 t240 t241 t242 t243 bt245.1 bt247.1 bt247.2 true)) else (letterlocklaw3_TermPairs.j0 k t233 t234 t235 t236 t237 t238 t239 t240 t241 t242 t243 bt245.1 bt247.1 bt247.2 true)) else (letterlocklaw3_TermPairs.j0 k t233 t234 t235 t236 t237 t238 t239 t240 t241 t242 t243 bt245.1 bt247.1 bt247.2 true)))) = some r := H
      have A20 := Aside0.mk A200
      clear A200
      replace H := Option.bind_eq_some_iff.mp H
      obtain ⟨⟨t245, t246⟩, A210, H⟩ := H
      replace H : ((term_Sign.f t235 t236).bind fun bt247 => (if t238 = 0 then (if t240 = 0 then (if t242 = 0 then (if t244 = 0 then (if t246 = 0 then (letterlocklaw3_TermPairs.j0 k t233 t234 t235 t236 t237 t238 t239 t240 t241 t242 t243 t245 bt247.1 bt247.2 (bt247.2 != 0)) else (letterlocklaw3_TermPairs.j0 k t233 t234 t235 t236 t237 t238 t239 t240 t241 t242 t243 t245 bt247.1 bt247.2 true)) else (letterlocklaw3_TermPairs.j0 k t233 t234 t235 t236 t237 t238 t239 t240 t241 t242 t243 t245 bt247.1 bt247.2 true)) else (letterlocklaw3_TermPairs.j0 k t233 t234 t235 t236 t237 t238 t239 t240 t241 t242 t243 t245 bt247.1 bt247.2 true)) else (letterlocklaw3_TermPairs.j0 k t233 t234 t235 t236 t237 t238 t239 t240 t241 t242 t243 t245 bt247.1 bt247.2 true)) else (letterlocklaw3_TermPairs.j0 k t233 t234 t235 t236 t237 t238 t239 t240 t241 t242 t243 t245 bt247.1 bt247.2 true))) = some r := H
      have A21 := Aside0.mk A210
      clear A210
      replace H := Option.bind_eq_some_iff.mp H
      obtain ⟨⟨t247, t248⟩, A220, H⟩ := H
      replace H : (if t238 = 0 then (if t240 = 0 then (if t242 = 0 then (if t244 = 0 then (if t246 = 0 then (letterlocklaw3_TermPairs.j0 k t233 t234 t235 t236 t237 t238 t239 t240 t241 t242 t243 t245 t247 t248 (t248 != 0)) else (letterlocklaw3_TermPairs.j0 k t233 t234 t235 t236 t237 t238 t239 t240 t241 t242 t243 t245 t247 t248 true)) else (letterlocklaw3_TermPairs.j0 k t233 t234 t235 t236 t237 t238 t239 t240 t241 t242 t243 t245 t247 t248 true)) else (letterlocklaw3_TermPairs.j0 k t233 t234 t235 t236 t237 t238 t239 t240 t241 t242 t243 t245 t247 t248 true)) else (letterlocklaw3_TermPairs.j0 k t233 t234 t235 t236 t237 t238 t239 t240 t241 t242 t243 t245 t247 t248 true)) else (letterlocklaw3_TermPairs.j0 k t233 t234 t235 t236 t237 t238 t239 t240 t241 t242 t243 t245 t247 t248 true)) = some r := H
      have A22 := Aside0.mk A220
      clear A220
      have HC23 := Aside0.mk H
      clear H
      go_enter Try.func3, Try.ntmps3
      go_upto_region 16 with (first | ((with_reducible refine gate_callee (f := 10) rfl ?_); refine goesL_ (some 27) rfl rfl Try.func10 (by kernel_rfl) rfl #[] rfl (by (try simp only [List.map_toArray, List.map_cons, List.map_nil]); first | done | rfl | (simp only [List.length_drop, List.length_take]; rfl)) ?_; (with_reducible refine (letterlocklaw3_shown.calls k  true _ A5.out).mono ?_); rintro e w24 ⟨rfl, hb⟩; refine ⟨_, rfl, ?_⟩; have n0_ := Aside0.mk (below_step (by repeat (first | (with_reducible first | exact HB.out | apply below_alloc | apply pw_below_drewN | apply below_drew1) | exact HB.out)) hb); clear HB; have HB := n0_; clear n0_; (try clear hb); (try clear hb2); (try clear hk); (try clear hi)) | ((with_reducible refine gate_callee (f := 11) rfl ?_); refine goesL_ (some 31) rfl rfl Try.func11 (by kernel_rfl) rfl #[.slice A0 l0.length c0] rfl (by (try simp only [List.map_toArray, List.map_cons, List.map_nil]); first | done | rfl | (simp only [List.length_drop, List.length_take]; rfl)) ?_; (with_reducible refine (letterlocklaw3_grown.calls k _ _ l0 t233 _ ?side1 ?side2 A7.out).mono ?_); (case side1 => repeat (first | exact (Kd.C_below HR0.out HB.out) | (with_reducible refine Kd.C_alloc ?_ _) | (with_reducible refine Kd.C_drewN ?_ _) | (with_reducible refine Kd.C_drew ?_))); (case side2 => exact HC0.out); rintro e w25 ⟨rfl, hb⟩; refine ⟨_, rfl, ?_⟩; have n0_ := Aside0.mk (below_step (by repeat (first | (with_reducible first | exact HB.out | apply below_alloc | apply pw_below_drewN | apply below_drew1) | exact HB.out)) hb); clear HB; have HB := n0_; clear n0_; (try clear hb); (try clear hb2); (try clear hk); (try clear hi)) | ((with_reducible refine gate_callee (f := 11) rfl ?_); refine goesL_ (some 33) rfl rfl Try.func11 (by kernel_rfl) rfl #[.slice A1 l1.length c1] rfl (by (try simp only [List.map_toArray, List.map_cons, List.map_nil]); first | done | rfl | (simp only [List.length_drop, List.length_take]; rfl)) ?_; (with_reducible refine (letterlocklaw3_grown.calls k _ _ l1 t234 _ ?side1 ?side2 A8.out).mono ?_); (case side1 => repeat (first | exact (Kd.C_below HR1.out HB.out) | (with_reducible refine Kd.C_alloc ?_ _) | (with_reducible refine Kd.C_drewN ?_ _) | (with_reducible refine Kd.C_drew ?_))); (case side2 => exact HC1.out); rintro e w26 ⟨rfl, hb⟩; refine ⟨_, rfl, ?_⟩; have n0_ := Aside0.mk (below_step (by repeat (first | (with_reducible first | exact HB.out | apply below_alloc | apply pw_below_drewN | apply below_drew1) | exact HB.out)) hb); clear HB; have HB := n0_; clear n0_; (try clear hb); (try clear hb2); (try clear hk); (try clear hi)) | ((with_reducible refine gate_callee (f := 11) rfl ?_); refine goesL_ (some 35) rfl rfl Try.func11 (by kernel_rfl) rfl #[.slice A2 l2.length c2] rfl (by (try simp only [List.map_toArray, List.map_cons, List.map_nil]); first | done | rfl | (simp only [List.length_drop, List.length_take]; rfl)) ?_; (with_reducible refine (letterlocklaw3_grown.calls k _ _ l2 t235 _ ?side1 ?side2 A9.out).mono ?_); (case side1 => repeat (first | exact (Kd.C_below HR2.out HB.out) | (with_reducible refine Kd.C_alloc ?_ _) | (with_reducible refine Kd.C_drewN ?_ _) | (with_reducible refine Kd.C_drew ?_))); (case side2 => exact HC2.out); rintro e w27 ⟨rfl, hb⟩; refine ⟨_, rfl, ?_⟩; have n0_ := Aside0.mk (below_step (by repeat (first | (with_reducible first | exact HB.out | apply below_alloc | apply pw_below_drewN | apply below_drew1) | exact HB.out)) hb); clear HB; have HB := n0_; clear n0_; (try clear hb); (try clear hb2); (try clear hk); (try clear hi)) | ((with_reducible refine gate_callee (f := 11) rfl ?_); refine goesL_ (some 37) rfl rfl Try.func11 (by kernel_rfl) rfl #[.slice A3 l3.length c3] rfl (by (try simp only [List.map_toArray, List.map_cons, List.map_nil]); first | done | rfl | (simp only [List.length_drop, List.length_take]; rfl)) ?_; (with_reducible refine (letterlocklaw3_grown.calls k _ _ l3 t236 _ ?side1 ?side2 A10.out).mono ?_); (case side1 => repeat (first | exact (Kd.C_below HR3.out HB.out) | (with_reducible refine Kd.C_alloc ?_ _) | (with_reducible refine Kd.C_drewN ?_ _) | (with_reducible refine Kd.C_drew ?_))); (case side2 => exact HC3.out); rintro e w28 ⟨rfl, hb⟩; refine ⟨_, rfl, ?_⟩; have n0_ := Aside0.mk (below_step (by repeat (first | (with_reducible first | exact HB.out | apply below_alloc | apply pw_below_drewN | apply below_drew1) | exact HB.out)) hb); clear HB; have HB := n0_; clear n0_; (try clear hb); (try clear hb2); (try clear hk); (try clear hi)) | ((with_reducible refine gate_callee (f := 12) rfl ?_); refine goesL_ (some 53) rfl rfl Try.func12 (by kernel_rfl) rfl #[.string t233, .string t234] rfl (by (try simp only [List.map_toArray, List.map_cons, List.map_nil]); first | done | rfl | (simp only [List.length_drop, List.length_take]; rfl)) ?_; (with_reducible refine (term_OfPair.calls t233 t234 t237 t238 _ A17.out).mono ?_); rintro e w29 ⟨rfl, hb⟩; refine ⟨_, rfl, ?_⟩; have n0_ := Aside0.mk (below_step (by repeat (first | (with_reducible first | exact HB.out | apply below_alloc | apply pw_below_drewN | apply below_drew1) | exact HB.out)) hb); clear HB; have HB := n0_; clear n0_; (try clear hb); (try clear hb2); (try clear hk); (try clear hi)) | ((with_reducible refine gate_callee (f := 12) rfl ?_); refine goesL_ (some 59) rfl rfl Try.func12 (by kernel_rfl) rfl #[.string t235, .string t236] rfl (by (try simp only [List.map_toArray, List.map_cons, List.map_nil]); first | done | rfl | (simp only [List.length_drop, List.length_take]; rfl)) ?_; (with_reducible refine (term_OfPair.calls t235 t236 t239 t240 _ A18.out).mono ?_); rintro e w30 ⟨rfl, hb⟩; refine ⟨_, rfl, ?_⟩; have n0_ := Aside0.mk (below_step (by repeat (first | (with_reducible first | exact HB.out | apply below_alloc | apply pw_below_drewN | apply below_drew1) | exact HB.out)) hb); clear HB; have HB := n0_; clear n0_; (try clear hb); (try clear hb2); (try clear hk); (try clear hi)) | ((with_reducible refine gate_callee (f := 13) rfl ?_); refine goesL_ (some 65) rfl rfl Try.func13 (by kernel_rfl) rfl #[.string t233, .string t234] rfl (by (try simp only [List.map_toArray, List.map_cons, List.map_nil]); first | done | rfl | (simp only [List.length_drop, List.length_take]; rfl)) ?_; (with_reducible refine (term_Seal.calls t233 t234 t241 t242 _ A19.out).mono ?_); rintro e w31 ⟨rfl, hb⟩; refine ⟨_, rfl, ?_⟩; have n0_ := Aside0.mk (below_step (by repeat (first | (with_reducible first | exact HB.out | apply below_alloc | apply pw_below_drewN | apply below_drew1) | exact HB.out)) hb); clear HB; have HB := n0_; clear n0_; (try clear hb); (try clear hb2); (try clear hk); (try clear hi)) | ((with_reducible refine gate_callee (f := 13) rfl ?_); refine goesL_ (some 71) rfl rfl Try.func13 (by kernel_rfl) rfl #[.string t235, .string t236] rfl (by (try simp only [List.map_toArray, List.map_cons, List.map_nil]); first | done | rfl | (simp only [List.length_drop, List.length_take]; rfl)) ?_; (with_reducible refine (term_Seal.calls t235 t236 t243 t244 _ A20.out).mono ?_); rintro e w32 ⟨rfl, hb⟩; refine ⟨_, rfl, ?_⟩; have n0_ := Aside0.mk (below_step (by repeat (first | (with_reducible first | exact HB.out | apply below_alloc | apply pw_below_drewN | apply below_drew1) | exact HB.out)) hb); clear HB; have HB := n0_; clear n0_; (try clear hb); (try clear hb2); (try clear hk); (try clear hi)) | ((with_reducible refine gate_callee (f := 14) rfl ?_); refine goesL_ (some 77) rfl rfl Try.func14 (by kernel_rfl) rfl #[.string t233, .string t234] rfl (by (try simp only [List.map_toArray, List.map_cons, List.map_nil]); first | done | rfl | (simp only [List.length_drop, List.length_take]; rfl)) ?_; (with_reducible refine (term_Sign.calls t233 t234 t245 t246 _ A21.out).mono ?_); rintro e w33 ⟨rfl, hb⟩; refine ⟨_, rfl, ?_⟩; have n0_ := Aside0.mk (below_step (by repeat (first | (with_reducible first | exact HB.out | apply below_alloc | apply pw_below_drewN | apply below_drew1) | exact HB.out)) hb); clear HB; have HB := n0_; clear n0_; (try clear hb); (try clear hb2); (try clear hk); (try clear hi)) | ((with_reducible refine gate_callee (f := 14) rfl ?_); refine goesL_ (some 83) rfl rfl Try.func14 (by kernel_rfl) rfl #[.string t235, .string t236] rfl (by (try simp only [List.map_toArray, List.map_cons, List.map_nil]); first | done | rfl | (simp only [List.length_drop, List.length_take]; rfl)) ?_; (with_reducible refine (term_Sign.calls t235 t236 t247 t248 _ A22.out).mono ?_); rintro e w34 ⟨rfl, hb⟩; refine ⟨_, rfl, ?_⟩; have n0_ := Aside0.mk (below_step (by repeat (first | (with_reducible first | exact HB.out | apply below_alloc | apply pw_below_drewN | apply below_drew1) | exact HB.out)) hb); clear HB; have HB := n0_; clear n0_; (try clear hb); (try clear hb2); (try clear hk); (try clear hi)))
      (try simp only [Act.put, List.setIfInBounds_toArray, List.set_cons_zero, List.set_cons_succ])
      go_cut [107] (fun v107 wc => ∃ (kq : Nat) (x107_22 : Bool), v107 = .bool x107_22 ∧ Aside0 (letterlocklaw3_TermPairs.j0 kq t233 t234 t235 t236 t237 t238 t239 t240 t241 t242 t243 t245 t247 t248 x107_22 = some r) ∧ Aside0 (kq ≤ k) ∧ Aside0 (Below w.heap.size w wc))
      case first => as_aux_lemma =>
        have H := HC23.out
        clear HC23
        by_cases c35 : t238 = 0
        · rw [if_pos c35] at H
          have c35b0 : (t238 == 0) = true := beq_iff_eq.mpr c35
          have c35b1 : (t238 != 0) = false := bne_eq_false_iff_eq.mpr c35
          clear c35
          (first | rw [c35b0] | (simp only [i64_w, i32_w]; rw [c35b0]) | skip)
          by_cases c36 : t240 = 0
          · rw [if_pos c36] at H
            have c36b0 : (t240 == 0) = true := beq_iff_eq.mpr c36
            have c36b1 : (t240 != 0) = false := bne_eq_false_iff_eq.mpr c36
            clear c36
            by_cases c37 : t242 = 0
            · rw [if_pos c37] at H
              have c37b0 : (t242 == 0) = true := beq_iff_eq.mpr c37
              have c37b1 : (t242 != 0) = false := bne_eq_false_iff_eq.mpr c37
              clear c37
              by_cases c38 : t244 = 0
              · rw [if_pos c38] at H
                have c38b0 : (t244 == 0) = true := beq_iff_eq.mpr c38
                have c38b1 : (t244 != 0) = false := bne_eq_false_iff_eq.mpr c38
                clear c38
                by_cases c39 : t246 = 0
                · rw [if_pos c39] at H
                  have c39b0 : (t246 == 0) = true := beq_iff_eq.mpr c39
                  have c39b1 : (t246 != 0) = false := bne_eq_false_iff_eq.mpr c39
                  clear c39
                  have H' := Aside0.mk H
                  clear H
                  go_wp2
                  go_meet
                  case rel => exact ⟨_, ((t248 != 0)), (by first | rfl | (simp; done) | (simp [*]; done) | (simp; exact isEmpty_ne _)), H', ⟨by first | omega | exact Nat.le_refl _⟩, ⟨by repeat (first | (with_reducible first | exact HB.out | apply below_alloc | apply pw_below_drewN | apply below_drew1) | exact HB.out)⟩⟩
                · rw [if_neg c39] at H
                  have c39b0 : (t246 == 0) = false := beq_eq_false_iff_ne.mpr c39
                  have c39b1 : (t246 != 0) = true := bne_iff_ne.mpr c39
                  have H' := Aside0.mk H
                  clear H
                  go_wp2
                  go_meet
                  case rel => exact ⟨_, (true), (by first | rfl | (simp; done) | (simp [*]; done) | (simp; exact isEmpty_ne _)), H', ⟨by first | omega | exact Nat.le_refl _⟩, ⟨by repeat (first | (with_reducible first | exact HB.out | apply below_alloc | apply pw_below_drewN | apply below_drew1) | exact HB.out)⟩⟩
              · rw [if_neg c38] at H
                have c38b0 : (t244 == 0) = false := beq_eq_false_iff_ne.mpr c38
                have c38b1 : (t244 != 0) = true := bne_iff_ne.mpr c38
                have H' := Aside0.mk H
                clear H
                go_wp2
                go_meet
                case rel => exact ⟨_, (true), (by first | rfl | (simp; done) | (simp [*]; done) | (simp; exact isEmpty_ne _)), H', ⟨by first | omega | exact Nat.le_refl _⟩, ⟨by repeat (first | (with_reducible first | exact HB.out | apply below_alloc | apply pw_below_drewN | apply below_drew1) | exact HB.out)⟩⟩
            · rw [if_neg c37] at H
              have c37b0 : (t242 == 0) = false := beq_eq_false_iff_ne.mpr c37
              have c37b1 : (t242 != 0) = true := bne_iff_ne.mpr c37
              have H' := Aside0.mk H
              clear H
              go_wp2
              go_meet
              case rel => exact ⟨_, (true), (by first | rfl | (simp; done) | (simp [*]; done) | (simp; exact isEmpty_ne _)), H', ⟨by first | omega | exact Nat.le_refl _⟩, ⟨by repeat (first | (with_reducible first | exact HB.out | apply below_alloc | apply pw_below_drewN | apply below_drew1) | exact HB.out)⟩⟩
          · rw [if_neg c36] at H
            have c36b0 : (t240 == 0) = false := beq_eq_false_iff_ne.mpr c36
            have c36b1 : (t240 != 0) = true := bne_iff_ne.mpr c36
            have H' := Aside0.mk H
            clear H
            go_wp2
            go_meet
            case rel => exact ⟨_, (true), (by first | rfl | (simp; done) | (simp [*]; done) | (simp; exact isEmpty_ne _)), H', ⟨by first | omega | exact Nat.le_refl _⟩, ⟨by repeat (first | (with_reducible first | exact HB.out | apply below_alloc | apply pw_below_drewN | apply below_drew1) | exact HB.out)⟩⟩
        · rw [if_neg c35] at H
          have c35b0 : (t238 == 0) = false := beq_eq_false_iff_ne.mpr c35
          have c35b1 : (t238 != 0) = true := bne_iff_ne.mpr c35
          (first | rw [c35b0] | (simp only [i64_w, i32_w]; rw [c35b0]) | skip)
          have H' := Aside0.mk H
          clear H
          go_wp2
          go_meet
          case rel => exact ⟨_, (true), (by first | rfl | (simp; done) | (simp [*]; done) | (simp; exact isEmpty_ne _)), H', ⟨by first | omega | exact Nat.le_refl _⟩, ⟨by repeat (first | (with_reducible first | exact HB.out | apply below_alloc | apply pw_below_drewN | apply below_drew1) | exact HB.out)⟩⟩
      case rest => as_aux_lemma =>
        clear HC23
        try clear c1
        try clear c2
        try clear p2
        try clear c3
        try clear c6
        try clear p6
        try clear c10
        try clear c11
        try clear c11b0
        try clear c12
        try clear c13
        try clear c14
        try clear c35
        try clear c35b0
        try clear c35b1
        try clear c36
        try clear c36b0
        try clear c36b1
        try clear c37
        try clear c37b0
        try clear c37b1
        try clear c38
        try clear c38b0
        try clear c38b1
        try clear c39
        try clear c39b0
        try clear c39b1
        obtain ⟨kq, x107_22, rfl, HA, HJ22, HB⟩ := hcut
        cases kq with
        | zero => exact absurd HA.out (by simp [letterlocklaw3_TermPairs.j0])
        | succ kj22 =>
          have H := HA.out
          clear HA
          simp only [letterlocklaw3_TermPairs.j0] at H
          by_cases c40 : x107_22 = true
          · subst c40
            have H1 : (if t238 = 0 then (if t240 = 0 then (if ((t238 == 0) == (t242 == 0)) = true then (some ((t240 == 0) == (t248 == 0))) else (some false)) else (if t240 = 10 then (if ((t238 == 0) == (t242 == 0)) = true then (some ((t240 == 0) == (t248 == 0))) else (some false)) else (some false))) else (if t238 = 10 then (if t240 = 0 then (if ((t238 == 0) == (t242 == 0)) = true then (some ((t240 == 0) == (t248 == 0))) else (some false)) else (if t240 = 10 then (if ((t238 == 0) == (t242 == 0)) = true then (some ((t240 == 0) == (t248 == 0))) else (some false)) else (some false))) else (some false))) = some r := by rw [if_pos rfl] at H; exact H
            clear H
            have H := H1
            clear H1
            by_cases c41 : t238 = 0
            · rw [if_pos c41] at H
              have c41b0 : (t238 == 0) = true := beq_iff_eq.mpr c41
              have c41b1 : (t238 != 0) = false := bne_eq_false_iff_eq.mpr c41
              clear c41
              by_cases c42 : t240 = 0
              · rw [if_pos c42] at H
                have c42b0 : (t240 == 0) = true := beq_iff_eq.mpr c42
                have c42b1 : (t240 != 0) = false := bne_eq_false_iff_eq.mpr c42
                clear c42
                by_cases d1 : t242 = 0
                · have d1b0 : (t242 == 0) = true := beq_iff_eq.mpr d1
                  have d1b1 : (t242 != 0) = false := bne_eq_false_iff_eq.mpr d1
                  clear d1
                  have c43 : ((t238 == 0) == (t242 == 0)) = true := by rw [c41b0, d1b0]; rfl
                  rw [if_pos c43] at H
                  clear c43
                  obtain rfl := Option.some.inj H
                  go_wp2
                  go_ret
                  exact ⟨by first | rfl | (simp [errW_none, errW_some] <;> rfl) | (simp [*, errW_none, errW_some] <;> rfl), by repeat (first | (with_reducible first | exact HB.out | apply below_alloc | apply pw_below_drewN | apply below_drew1) | exact HB.out)⟩
                · have d1b0 : (t242 == 0) = false := beq_eq_false_iff_ne.mpr d1
                  have d1b1 : (t242 != 0) = true := bne_iff_ne.mpr d1
                  clear d1
                  have c43 : ((t238 == 0) == (t242 == 0)) = false := by rw [c41b0, d1b0]; rfl
                  rw [if_neg (by rw [c43]; decide)] at H
                  clear c43
                  obtain rfl := Option.some.inj H
                  go_wp2
                  go_ret
                  exact ⟨by first | rfl | (simp [errW_none, errW_some] <;> rfl) | (simp [*, errW_none, errW_some] <;> rfl), by repeat (first | (with_reducible first | exact HB.out | apply below_alloc | apply pw_below_drewN | apply below_drew1) | exact HB.out)⟩
              · rw [if_neg c42] at H
                have c42b0 : (t240 == 0) = false := beq_eq_false_iff_ne.mpr c42
                have c42b1 : (t240 != 0) = true := bne_iff_ne.mpr c42
                by_cases c44 : t240 = 10
                · rw [if_pos c44] at H
                  have c44b0 : (t240 == 10) = true := beq_iff_eq.mpr c44
                  have c44b1 : (t240 != 10) = false := bne_eq_false_iff_eq.mpr c44
                  clear c44
                  by_cases d2 : t242 = 0
                  · have d2b0 : (t242 == 0) = true := beq_iff_eq.mpr d2
                    have d2b1 : (t242 != 0) = false := bne_eq_false_iff_eq.mpr d2
                    clear d2
                    have c45 : ((t238 == 0) == (t242 == 0)) = true := by rw [c41b0, d2b0]; rfl
                    rw [if_pos c45] at H
                    clear c45
                    obtain rfl := Option.some.inj H
                    go_wp2
                    go_ret
                    exact ⟨by first | rfl | (simp [errW_none, errW_some] <;> rfl) | (simp [*, errW_none, errW_some] <;> rfl), by repeat (first | (with_reducible first | exact HB.out | apply below_alloc | apply pw_below_drewN | apply below_drew1) | exact HB.out)⟩
                  · have d2b0 : (t242 == 0) = false := beq_eq_false_iff_ne.mpr d2
                    have d2b1 : (t242 != 0) = true := bne_iff_ne.mpr d2
                    clear d2
                    have c45 : ((t238 == 0) == (t242 == 0)) = false := by rw [c41b0, d2b0]; rfl
                    rw [if_neg (by rw [c45]; decide)] at H
                    clear c45
                    obtain rfl := Option.some.inj H
                    go_wp2
                    go_ret
                    exact ⟨by first | rfl | (simp [errW_none, errW_some] <;> rfl) | (simp [*, errW_none, errW_some] <;> rfl), by repeat (first | (with_reducible first | exact HB.out | apply below_alloc | apply pw_below_drewN | apply below_drew1) | exact HB.out)⟩
                · rw [if_neg c44] at H
                  have c44b0 : (t240 == 10) = false := beq_eq_false_iff_ne.mpr c44
                  have c44b1 : (t240 != 10) = true := bne_iff_ne.mpr c44
                  obtain rfl := Option.some.inj H
                  go_wp2
                  go_ret
                  exact ⟨by first | rfl | (simp [errW_none, errW_some] <;> rfl) | (simp [*, errW_none, errW_some] <;> rfl), by repeat (first | (with_reducible first | exact HB.out | apply below_alloc | apply pw_below_drewN | apply below_drew1) | exact HB.out)⟩
            · rw [if_neg c41] at H
              have c41b0 : (t238 == 0) = false := beq_eq_false_iff_ne.mpr c41
              have c41b1 : (t238 != 0) = true := bne_iff_ne.mpr c41
              by_cases c46 : t238 = 10
              · rw [if_pos c46] at H
                have c46b0 : (t238 == 10) = true := beq_iff_eq.mpr c46
                have c46b1 : (t238 != 10) = false := bne_eq_false_iff_eq.mpr c46
                clear c46
                by_cases c47 : t240 = 0
                · rw [if_pos c47] at H
                  have c47b0 : (t240 == 0) = true := beq_iff_eq.mpr c47
                  have c47b1 : (t240 != 0) = false := bne_eq_false_iff_eq.mpr c47
                  clear c47
                  by_cases d3 : t242 = 0
                  · have d3b0 : (t242 == 0) = true := beq_iff_eq.mpr d3
                    have d3b1 : (t242 != 0) = false := bne_eq_false_iff_eq.mpr d3
                    clear d3
                    have c48 : ((t238 == 0) == (t242 == 0)) = false := by rw [c41b0, d3b0]; rfl
                    rw [if_neg (by rw [c48]; decide)] at H
                    clear c48
                    obtain rfl := Option.some.inj H
                    go_wp2
                    go_ret
                    exact ⟨by first | rfl | (simp [errW_none, errW_some] <;> rfl) | (simp [*, errW_none, errW_some] <;> rfl), by repeat (first | (with_reducible first | exact HB.out | apply below_alloc | apply pw_below_drewN | apply below_drew1) | exact HB.out)⟩
                  · have d3b0 : (t242 == 0) = false := beq_eq_false_iff_ne.mpr d3
                    have d3b1 : (t242 != 0) = true := bne_iff_ne.mpr d3
                    clear d3
                    have c48 : ((t238 == 0) == (t242 == 0)) = true := by rw [c41b0, d3b0]; rfl
                    rw [if_pos c48] at H
                    clear c48
                    obtain rfl := Option.some.inj H
                    go_wp2
                    go_ret
                    exact ⟨by first | rfl | (simp [errW_none, errW_some] <;> rfl) | (simp [*, errW_none, errW_some] <;> rfl), by repeat (first | (with_reducible first | exact HB.out | apply below_alloc | apply pw_below_drewN | apply below_drew1) | exact HB.out)⟩
                · rw [if_neg c47] at H
                  have c47b0 : (t240 == 0) = false := beq_eq_false_iff_ne.mpr c47
                  have c47b1 : (t240 != 0) = true := bne_iff_ne.mpr c47
                  by_cases c49 : t240 = 10
                  · rw [if_pos c49] at H
                    have c49b0 : (t240 == 10) = true := beq_iff_eq.mpr c49
                    have c49b1 : (t240 != 10) = false := bne_eq_false_iff_eq.mpr c49
                    clear c49
                    by_cases d4 : t242 = 0
                    · have d4b0 : (t242 == 0) = true := beq_iff_eq.mpr d4
                      have d4b1 : (t242 != 0) = false := bne_eq_false_iff_eq.mpr d4
                      clear d4
                      have c50 : ((t238 == 0) == (t242 == 0)) = false := by rw [c41b0, d4b0]; rfl
                      rw [if_neg (by rw [c50]; decide)] at H
                      clear c50
                      obtain rfl := Option.some.inj H
                      go_wp2
                      go_ret
                      exact ⟨by first | rfl | (simp [errW_none, errW_some] <;> rfl) | (simp [*, errW_none, errW_some] <;> rfl), by repeat (first | (with_reducible first | exact HB.out | apply below_alloc | apply pw_below_drewN | apply below_drew1) | exact HB.out)⟩
                    · have d4b0 : (t242 == 0) = false := beq_eq_false_iff_ne.mpr d4
                      have d4b1 : (t242 != 0) = true := bne_iff_ne.mpr d4
                      clear d4
                      have c50 : ((t238 == 0) == (t242 == 0)) = true := by rw [c41b0, d4b0]; rfl
                      rw [if_pos c50] at H
                      clear c50
                      obtain rfl := Option.some.inj H
                      go_wp2
                      go_ret
                      exact ⟨by first | rfl | (simp [errW_none, errW_some] <;> rfl) | (simp [*, errW_none, errW_some] <;> rfl), by repeat (first | (with_reducible first | exact HB.out | apply below_alloc | apply pw_below_drewN | apply below_drew1) | exact HB.out)⟩
                  · rw [if_neg c49] at H
                    have c49b0 : (t240 == 10) = false := beq_eq_false_iff_ne.mpr c49
                    have c49b1 : (t240 != 10) = true := bne_iff_ne.mpr c49
                    obtain rfl := Option.some.inj H
                    go_wp2
                    go_ret
                    exact ⟨by first | rfl | (simp [errW_none, errW_some] <;> rfl) | (simp [*, errW_none, errW_some] <;> rfl), by repeat (first | (with_reducible first | exact HB.out | apply below_alloc | apply pw_below_drewN | apply below_drew1) | exact HB.out)⟩
              · rw [if_neg c46] at H
                have c46b0 : (t238 == 10) = false := beq_eq_false_iff_ne.mpr c46
                have c46b1 : (t238 != 10) = true := bne_iff_ne.mpr c46
                obtain rfl := Option.some.inj H
                go_wp2
                go_ret
                exact ⟨by first | rfl | (simp [errW_none, errW_some] <;> rfl) | (simp [*, errW_none, errW_some] <;> rfl), by repeat (first | (with_reducible first | exact HB.out | apply below_alloc | apply pw_below_drewN | apply below_drew1) | exact HB.out)⟩
          · replace c40 := Bool.eq_false_iff.mpr c40
            subst c40
            have H1 : (if t233.toList = t235.toList then (if ((t237.toList == t239.toList) == (t234.toList == t236.toList)) = true then (if ((t241.toList == t243.toList) == (t234.toList == t236.toList)) = true then (if ((t245.toList == t247.toList) == (t234.toList == t236.toList)) = true then (if t237.toList = t241.toList then (some false) else (if t241.toList = t245.toList then (some false) else (if t237.toList = t245.toList then (some false) else ((term_Kind.f t237).bind fun t249 => (if t249 = 112 then ((term_Kind.f t241).bind fun t250 => (if t250 = 115 then ((term_Kind.f t245).bind fun t251 => (some (t251 == 103))) else (some false))) else (some false)))))) else (some false)) else (some false)) else (some false)) else (if ((t237.toList == t239.toList) == false) = true then (if ((t241.toList == t243.toList) == false) = true then (if ((t245.toList == t247.toList) == false) = true then (if t237.toList = t241.toList then (some false) else (if t241.toList = t245.toList then (some false) else (if t237.toList = t245.toList then (some false) else ((term_Kind.f t237).bind fun t252 => (if t252 = 112 then ((term_Kind.f t241).bind fun t253 => (if t253 = 115 then ((term_Kind.f t245).bind fun t254 => (some (t254 == 103))) else (some false))) else (some false)))))) else (some false)) else (some false)) else (some false))) = some r := by rw [if_neg (show ¬ (false = true) by decide)] at H; exact H
            clear H
            have H := H1
            clear H1
            by_cases c51 : t233.toList = t235.toList
            · rw [if_pos c51] at H
              have c51b0 : (t233.toList == t235.toList) = true := beq_iff_eq.mpr c51
              have c51b1 : (t233.toList != t235.toList) = false := bne_eq_false_iff_eq.mpr c51
              clear c51
              by_cases d5 : t237.toList = t239.toList
              · have d5b0 : (t237.toList == t239.toList) = true := beq_iff_eq.mpr d5
                have d5b1 : (t237.toList != t239.toList) = false := bne_eq_false_iff_eq.mpr d5
                clear d5
                by_cases d6 : t234.toList = t236.toList
                · have d6b0 : (t234.toList == t236.toList) = true := beq_iff_eq.mpr d6
                  have d6b1 : (t234.toList != t236.toList) = false := bne_eq_false_iff_eq.mpr d6
                  clear d6
                  have c52 : ((t237.toList == t239.toList) == (t234.toList == t236.toList)) = true := by rw [d5b0, d6b0]; rfl
                  rw [if_pos c52] at H
                  clear c52
                  by_cases d7 : t241.toList = t243.toList
                  · have d7b0 : (t241.toList == t243.toList) = true := beq_iff_eq.mpr d7
                    have d7b1 : (t241.toList != t243.toList) = false := bne_eq_false_iff_eq.mpr d7
                    clear d7
                    have c53 : ((t241.toList == t243.toList) == (t234.toList == t236.toList)) = true := by rw [d7b0, d6b0]; rfl
                    rw [if_pos c53] at H
                    clear c53
                    by_cases d8 : t245.toList = t247.toList
                    · have d8b0 : (t245.toList == t247.toList) = true := beq_iff_eq.mpr d8
                      have d8b1 : (t245.toList != t247.toList) = false := bne_eq_false_iff_eq.mpr d8
                      clear d8
                      have c54 : ((t245.toList == t247.toList) == (t234.toList == t236.toList)) = true := by rw [d8b0, d6b0]; rfl
                      rw [if_pos c54] at H
                      clear c54
                      by_cases c55 : t237.toList = t241.toList
                      · rw [if_pos c55] at H
                        have c55b0 : (t237.toList == t241.toList) = true := beq_iff_eq.mpr c55
                        have c55b1 : (t237.toList != t241.toList) = false := bne_eq_false_iff_eq.mpr c55
                        clear c55
                        obtain rfl := Option.some.inj H
                        go_wp2
                        go_ret
                        exact ⟨by first | rfl | (simp [errW_none, errW_some] <;> rfl) | (simp [*, errW_none, errW_some] <;> rfl), by repeat (first | (with_reducible first | exact HB.out | apply below_alloc | apply pw_below_drewN | apply below_drew1) | exact HB.out)⟩
                      · rw [if_neg c55] at H
                        have c55b0 : (t237.toList == t241.toList) = false := beq_eq_false_iff_ne.mpr c55
                        have c55b1 : (t237.toList != t241.toList) = true := bne_iff_ne.mpr c55
                        by_cases c56 : t241.toList = t245.toList
                        · rw [if_pos c56] at H
                          have c56b0 : (t241.toList == t245.toList) = true := beq_iff_eq.mpr c56
                          have c56b1 : (t241.toList != t245.toList) = false := bne_eq_false_iff_eq.mpr c56
                          clear c56
                          obtain rfl := Option.some.inj H
                          go_wp2
                          go_ret
                          exact ⟨by first | rfl | (simp [errW_none, errW_some] <;> rfl) | (simp [*, errW_none, errW_some] <;> rfl), by repeat (first | (with_reducible first | exact HB.out | apply below_alloc | apply pw_below_drewN | apply below_drew1) | exact HB.out)⟩
                        · rw [if_neg c56] at H
                          have c56b0 : (t241.toList == t245.toList) = false := beq_eq_false_iff_ne.mpr c56
                          have c56b1 : (t241.toList != t245.toList) = true := bne_iff_ne.mpr c56
                          by_cases c57 : t237.toList = t245.toList
                          · rw [if_pos c57] at H
                            have c57b0 : (t237.toList == t245.toList) = true := beq_iff_eq.mpr c57
                            have c57b1 : (t237.toList != t245.toList) = false := bne_eq_false_iff_eq.mpr c57
                            clear c57
                            obtain rfl := Option.some.inj H
                            go_wp2
                            go_ret
                            exact ⟨by first | rfl | (simp [errW_none, errW_some] <;> rfl) | (simp [*, errW_none, errW_some] <;> rfl), by repeat (first | (with_reducible first | exact HB.out | apply below_alloc | apply pw_below_drewN | apply below_drew1) | exact HB.out)⟩
                          · rw [if_neg c57] at H
                            have c57b0 : (t237.toList == t245.toList) = false := beq_eq_false_iff_ne.mpr c57
                            have c57b1 : (t237.toList != t245.toList) = true := bne_iff_ne.mpr c57
                            replace H := Option.bind_eq_some_iff.mp H
                            obtain ⟨t249, A580, H⟩ := H
                            replace H : (if t249 = 112 then ((term_Kind.f t241).bind fun t250 => (if t250 = 115 then ((term_Kind.f t245).bind fun t251 => (some (t251 == 103))) else (some false))) else (some false)) = some r := H
                            have A58 := Aside0.mk A580
                            clear A580
                            by_cases c59 : t249 = 112
                            · rw [if_pos c59] at H
                              have c59b0 : (t249 == 112) = true := beq_iff_eq.mpr c59
                              have c59b1 : (t249 != 112) = false := bne_eq_false_iff_eq.mpr c59
                              clear c59
                              replace H := Option.bind_eq_some_iff.mp H
                              obtain ⟨t250, A600, H⟩ := H
                              replace H : (if t250 = 115 then ((term_Kind.f t245).bind fun t251 => (some (t251 == 103))) else (some false)) = some r := H
                              have A60 := Aside0.mk A600
                              clear A600
                              by_cases c61 : t250 = 115
                              · rw [if_pos c61] at H
                                have c61b0 : (t250 == 115) = true := beq_iff_eq.mpr c61
                                have c61b1 : (t250 != 115) = false := bne_eq_false_iff_eq.mpr c61
                                clear c61
                                replace H := Option.bind_eq_some_iff.mp H
                                obtain ⟨t251, A620, H⟩ := H
                                replace H : (some (t251 == 103)) = some r := H
                                have A62 := Aside0.mk A620
                                clear A620
                                obtain rfl := Option.some.inj H
                                go_wp2_with (first | (go_at_call 15; (with_reducible refine (term_Kind.calls t237 t249 _ A58.out).mono ?_); rintro e w63 ⟨rfl, hb⟩; have n0_ := Aside0.mk (below_step (by repeat (first | (with_reducible first | exact HB.out | apply below_alloc | apply pw_below_drewN | apply below_drew1) | exact HB.out)) hb); clear HB; have HB := n0_; clear n0_; (try clear hb); (try clear hb2); (try clear hk); (try clear hi)) | (go_at_call 15; (with_reducible refine (term_Kind.calls t241 t250 _ A60.out).mono ?_); rintro e w64 ⟨rfl, hb⟩; have n0_ := Aside0.mk (below_step (by repeat (first | (with_reducible first | exact HB.out | apply below_alloc | apply pw_below_drewN | apply below_drew1) | exact HB.out)) hb); clear HB; have HB := n0_; clear n0_; (try clear hb); (try clear hb2); (try clear hk); (try clear hi)) | (go_at_call 15; (with_reducible refine (term_Kind.calls t245 t251 _ A62.out).mono ?_); rintro e w65 ⟨rfl, hb⟩; have n0_ := Aside0.mk (below_step (by repeat (first | (with_reducible first | exact HB.out | apply below_alloc | apply pw_below_drewN | apply below_drew1) | exact HB.out)) hb); clear HB; have HB := n0_; clear n0_; (try clear hb); (try clear hb2); (try clear hk); (try clear hi)))
                                go_ret
                                exact ⟨by first | rfl | (simp [errW_none, errW_some] <;> rfl) | (simp [*, errW_none, errW_some] <;> rfl), by repeat (first | (with_reducible first | exact HB.out | apply below_alloc | apply pw_below_drewN | apply below_drew1) | exact HB.out)⟩
                              · rw [if_neg c61] at H
                                have c61b0 : (t250 == 115) = false := beq_eq_false_iff_ne.mpr c61
                                have c61b1 : (t250 != 115) = true := bne_iff_ne.mpr c61
                                obtain rfl := Option.some.inj H
                                go_wp2_with (first | (go_at_call 15; (with_reducible refine (term_Kind.calls t237 t249 _ A58.out).mono ?_); rintro e w66 ⟨rfl, hb⟩; have n0_ := Aside0.mk (below_step (by repeat (first | (with_reducible first | exact HB.out | apply below_alloc | apply pw_below_drewN | apply below_drew1) | exact HB.out)) hb); clear HB; have HB := n0_; clear n0_; (try clear hb); (try clear hb2); (try clear hk); (try clear hi)) | (go_at_call 15; (with_reducible refine (term_Kind.calls t241 t250 _ A60.out).mono ?_); rintro e w67 ⟨rfl, hb⟩; have n0_ := Aside0.mk (below_step (by repeat (first | (with_reducible first | exact HB.out | apply below_alloc | apply pw_below_drewN | apply below_drew1) | exact HB.out)) hb); clear HB; have HB := n0_; clear n0_; (try clear hb); (try clear hb2); (try clear hk); (try clear hi)))
                                go_ret
                                exact ⟨by first | rfl | (simp [errW_none, errW_some] <;> rfl) | (simp [*, errW_none, errW_some] <;> rfl), by repeat (first | (with_reducible first | exact HB.out | apply below_alloc | apply pw_below_drewN | apply below_drew1) | exact HB.out)⟩
                            · rw [if_neg c59] at H
                              have c59b0 : (t249 == 112) = false := beq_eq_false_iff_ne.mpr c59
                              have c59b1 : (t249 != 112) = true := bne_iff_ne.mpr c59
                              obtain rfl := Option.some.inj H
                              go_wp2_with (first | (go_at_call 15; (with_reducible refine (term_Kind.calls t237 t249 _ A58.out).mono ?_); rintro e w68 ⟨rfl, hb⟩; have n0_ := Aside0.mk (below_step (by repeat (first | (with_reducible first | exact HB.out | apply below_alloc | apply pw_below_drewN | apply below_drew1) | exact HB.out)) hb); clear HB; have HB := n0_; clear n0_; (try clear hb); (try clear hb2); (try clear hk); (try clear hi)))
                              go_ret
                              exact ⟨by first | rfl | (simp [errW_none, errW_some] <;> rfl) | (simp [*, errW_none, errW_some] <;> rfl), by repeat (first | (with_reducible first | exact HB.out | apply below_alloc | apply pw_below_drewN | apply below_drew1) | exact HB.out)⟩
                    · have d8b0 : (t245.toList == t247.toList) = false := beq_eq_false_iff_ne.mpr d8
                      have d8b1 : (t245.toList != t247.toList) = true := bne_iff_ne.mpr d8
                      clear d8
                      have c54 : ((t245.toList == t247.toList) == (t234.toList == t236.toList)) = false := by rw [d8b0, d6b0]; rfl
                      rw [if_neg (by rw [c54]; decide)] at H
                      clear c54
                      obtain rfl := Option.some.inj H
                      go_wp2
                      go_ret
                      exact ⟨by first | rfl | (simp [errW_none, errW_some] <;> rfl) | (simp [*, errW_none, errW_some] <;> rfl), by repeat (first | (with_reducible first | exact HB.out | apply below_alloc | apply pw_below_drewN | apply below_drew1) | exact HB.out)⟩
                  · have d7b0 : (t241.toList == t243.toList) = false := beq_eq_false_iff_ne.mpr d7
                    have d7b1 : (t241.toList != t243.toList) = true := bne_iff_ne.mpr d7
                    clear d7
                    have c53 : ((t241.toList == t243.toList) == (t234.toList == t236.toList)) = false := by rw [d7b0, d6b0]; rfl
                    rw [if_neg (by rw [c53]; decide)] at H
                    clear c53
                    obtain rfl := Option.some.inj H
                    go_wp2
                    go_ret
                    exact ⟨by first | rfl | (simp [errW_none, errW_some] <;> rfl) | (simp [*, errW_none, errW_some] <;> rfl), by repeat (first | (with_reducible first | exact HB.out | apply below_alloc | apply pw_below_drewN | apply below_drew1) | exact HB.out)⟩
                · have d6b0 : (t234.toList == t236.toList) = false := beq_eq_false_iff_ne.mpr d6
                  have d6b1 : (t234.toList != t236.toList) = true := bne_iff_ne.mpr d6
                  clear d6
                  have c52 : ((t237.toList == t239.toList) == (t234.toList == t236.toList)) = false := by rw [d5b0, d6b0]; rfl
                  rw [if_neg (by rw [c52]; decide)] at H
                  clear c52
                  obtain rfl := Option.some.inj H
                  go_wp2
                  go_ret
                  exact ⟨by first | rfl | (simp [errW_none, errW_some] <;> rfl) | (simp [*, errW_none, errW_some] <;> rfl), by repeat (first | (with_reducible first | exact HB.out | apply below_alloc | apply pw_below_drewN | apply below_drew1) | exact HB.out)⟩
              · have d5b0 : (t237.toList == t239.toList) = false := beq_eq_false_iff_ne.mpr d5
                have d5b1 : (t237.toList != t239.toList) = true := bne_iff_ne.mpr d5
                clear d5
                by_cases d9 : t234.toList = t236.toList
                · have d9b0 : (t234.toList == t236.toList) = true := beq_iff_eq.mpr d9
                  have d9b1 : (t234.toList != t236.toList) = false := bne_eq_false_iff_eq.mpr d9
                  clear d9
                  have c52 : ((t237.toList == t239.toList) == (t234.toList == t236.toList)) = false := by rw [d5b0, d9b0]; rfl
                  rw [if_neg (by rw [c52]; decide)] at H
                  clear c52
                  obtain rfl := Option.some.inj H
                  go_wp2
                  go_ret
                  exact ⟨by first | rfl | (simp [errW_none, errW_some] <;> rfl) | (simp [*, errW_none, errW_some] <;> rfl), by repeat (first | (with_reducible first | exact HB.out | apply below_alloc | apply pw_below_drewN | apply below_drew1) | exact HB.out)⟩
                · have d9b0 : (t234.toList == t236.toList) = false := beq_eq_false_iff_ne.mpr d9
                  have d9b1 : (t234.toList != t236.toList) = true := bne_iff_ne.mpr d9
                  clear d9
                  have c52 : ((t237.toList == t239.toList) == (t234.toList == t236.toList)) = true := by rw [d5b0, d9b0]; rfl
                  rw [if_pos c52] at H
                  clear c52
                  by_cases d10 : t241.toList = t243.toList
                  · have d10b0 : (t241.toList == t243.toList) = true := beq_iff_eq.mpr d10
                    have d10b1 : (t241.toList != t243.toList) = false := bne_eq_false_iff_eq.mpr d10
                    clear d10
                    have c53 : ((t241.toList == t243.toList) == (t234.toList == t236.toList)) = false := by rw [d10b0, d9b0]; rfl
                    rw [if_neg (by rw [c53]; decide)] at H
                    clear c53
                    obtain rfl := Option.some.inj H
                    go_wp2
                    go_ret
                    exact ⟨by first | rfl | (simp [errW_none, errW_some] <;> rfl) | (simp [*, errW_none, errW_some] <;> rfl), by repeat (first | (with_reducible first | exact HB.out | apply below_alloc | apply pw_below_drewN | apply below_drew1) | exact HB.out)⟩
                  · have d10b0 : (t241.toList == t243.toList) = false := beq_eq_false_iff_ne.mpr d10
                    have d10b1 : (t241.toList != t243.toList) = true := bne_iff_ne.mpr d10
                    clear d10
                    have c53 : ((t241.toList == t243.toList) == (t234.toList == t236.toList)) = true := by rw [d10b0, d9b0]; rfl
                    rw [if_pos c53] at H
                    clear c53
                    by_cases d11 : t245.toList = t247.toList
                    · have d11b0 : (t245.toList == t247.toList) = true := beq_iff_eq.mpr d11
                      have d11b1 : (t245.toList != t247.toList) = false := bne_eq_false_iff_eq.mpr d11
                      clear d11
                      have c54 : ((t245.toList == t247.toList) == (t234.toList == t236.toList)) = false := by rw [d11b0, d9b0]; rfl
                      rw [if_neg (by rw [c54]; decide)] at H
                      clear c54
                      obtain rfl := Option.some.inj H
                      go_wp2
                      go_ret
                      exact ⟨by first | rfl | (simp [errW_none, errW_some] <;> rfl) | (simp [*, errW_none, errW_some] <;> rfl), by repeat (first | (with_reducible first | exact HB.out | apply below_alloc | apply pw_below_drewN | apply below_drew1) | exact HB.out)⟩
                    · have d11b0 : (t245.toList == t247.toList) = false := beq_eq_false_iff_ne.mpr d11
                      have d11b1 : (t245.toList != t247.toList) = true := bne_iff_ne.mpr d11
                      clear d11
                      have c54 : ((t245.toList == t247.toList) == (t234.toList == t236.toList)) = true := by rw [d11b0, d9b0]; rfl
                      rw [if_pos c54] at H
                      clear c54
                      by_cases c55 : t237.toList = t241.toList
                      · rw [if_pos c55] at H
                        have c55b0 : (t237.toList == t241.toList) = true := beq_iff_eq.mpr c55
                        have c55b1 : (t237.toList != t241.toList) = false := bne_eq_false_iff_eq.mpr c55
                        clear c55
                        obtain rfl := Option.some.inj H
                        go_wp2
                        go_ret
                        exact ⟨by first | rfl | (simp [errW_none, errW_some] <;> rfl) | (simp [*, errW_none, errW_some] <;> rfl), by repeat (first | (with_reducible first | exact HB.out | apply below_alloc | apply pw_below_drewN | apply below_drew1) | exact HB.out)⟩
                      · rw [if_neg c55] at H
                        have c55b0 : (t237.toList == t241.toList) = false := beq_eq_false_iff_ne.mpr c55
                        have c55b1 : (t237.toList != t241.toList) = true := bne_iff_ne.mpr c55
                        by_cases c56 : t241.toList = t245.toList
                        · rw [if_pos c56] at H
                          have c56b0 : (t241.toList == t245.toList) = true := beq_iff_eq.mpr c56
                          have c56b1 : (t241.toList != t245.toList) = false := bne_eq_false_iff_eq.mpr c56
                          clear c56
                          obtain rfl := Option.some.inj H
                          go_wp2
                          go_ret
                          exact ⟨by first | rfl | (simp [errW_none, errW_some] <;> rfl) | (simp [*, errW_none, errW_some] <;> rfl), by repeat (first | (with_reducible first | exact HB.out | apply below_alloc | apply pw_below_drewN | apply below_drew1) | exact HB.out)⟩
                        · rw [if_neg c56] at H
                          have c56b0 : (t241.toList == t245.toList) = false := beq_eq_false_iff_ne.mpr c56
                          have c56b1 : (t241.toList != t245.toList) = true := bne_iff_ne.mpr c56
                          by_cases c57 : t237.toList = t245.toList
                          · rw [if_pos c57] at H
                            have c57b0 : (t237.toList == t245.toList) = true := beq_iff_eq.mpr c57
                            have c57b1 : (t237.toList != t245.toList) = false := bne_eq_false_iff_eq.mpr c57
                            clear c57
                            obtain rfl := Option.some.inj H
                            go_wp2
                            go_ret
                            exact ⟨by first | rfl | (simp [errW_none, errW_some] <;> rfl) | (simp [*, errW_none, errW_some] <;> rfl), by repeat (first | (with_reducible first | exact HB.out | apply below_alloc | apply pw_below_drewN | apply below_drew1) | exact HB.out)⟩
                          · rw [if_neg c57] at H
                            have c57b0 : (t237.toList == t245.toList) = false := beq_eq_false_iff_ne.mpr c57
                            have c57b1 : (t237.toList != t245.toList) = true := bne_iff_ne.mpr c57
                            replace H := Option.bind_eq_some_iff.mp H
                            obtain ⟨t249, A580, H⟩ := H
                            replace H : (if t249 = 112 then ((term_Kind.f t241).bind fun t250 => (if t250 = 115 then ((term_Kind.f t245).bind fun t251 => (some (t251 == 103))) else (some false))) else (some false)) = some r := H
                            have A58 := Aside0.mk A580
                            clear A580
                            by_cases c59 : t249 = 112
                            · rw [if_pos c59] at H
                              have c59b0 : (t249 == 112) = true := beq_iff_eq.mpr c59
                              have c59b1 : (t249 != 112) = false := bne_eq_false_iff_eq.mpr c59
                              clear c59
                              replace H := Option.bind_eq_some_iff.mp H
                              obtain ⟨t250, A600, H⟩ := H
                              replace H : (if t250 = 115 then ((term_Kind.f t245).bind fun t251 => (some (t251 == 103))) else (some false)) = some r := H
                              have A60 := Aside0.mk A600
                              clear A600
                              by_cases c61 : t250 = 115
                              · rw [if_pos c61] at H
                                have c61b0 : (t250 == 115) = true := beq_iff_eq.mpr c61
                                have c61b1 : (t250 != 115) = false := bne_eq_false_iff_eq.mpr c61
                                clear c61
                                replace H := Option.bind_eq_some_iff.mp H
                                obtain ⟨t251, A620, H⟩ := H
                                replace H : (some (t251 == 103)) = some r := H
                                have A62 := Aside0.mk A620
                                clear A620
                                obtain rfl := Option.some.inj H
                                go_wp2_with (first | (go_at_call 15; (with_reducible refine (term_Kind.calls t237 t249 _ A58.out).mono ?_); rintro e w63 ⟨rfl, hb⟩; have n0_ := Aside0.mk (below_step (by repeat (first | (with_reducible first | exact HB.out | apply below_alloc | apply pw_below_drewN | apply below_drew1) | exact HB.out)) hb); clear HB; have HB := n0_; clear n0_; (try clear hb); (try clear hb2); (try clear hk); (try clear hi)) | (go_at_call 15; (with_reducible refine (term_Kind.calls t241 t250 _ A60.out).mono ?_); rintro e w64 ⟨rfl, hb⟩; have n0_ := Aside0.mk (below_step (by repeat (first | (with_reducible first | exact HB.out | apply below_alloc | apply pw_below_drewN | apply below_drew1) | exact HB.out)) hb); clear HB; have HB := n0_; clear n0_; (try clear hb); (try clear hb2); (try clear hk); (try clear hi)) | (go_at_call 15; (with_reducible refine (term_Kind.calls t245 t251 _ A62.out).mono ?_); rintro e w65 ⟨rfl, hb⟩; have n0_ := Aside0.mk (below_step (by repeat (first | (with_reducible first | exact HB.out | apply below_alloc | apply pw_below_drewN | apply below_drew1) | exact HB.out)) hb); clear HB; have HB := n0_; clear n0_; (try clear hb); (try clear hb2); (try clear hk); (try clear hi)))
                                go_ret
                                exact ⟨by first | rfl | (simp [errW_none, errW_some] <;> rfl) | (simp [*, errW_none, errW_some] <;> rfl), by repeat (first | (with_reducible first | exact HB.out | apply below_alloc | apply pw_below_drewN | apply below_drew1) | exact HB.out)⟩
                              · rw [if_neg c61] at H
                                have c61b0 : (t250 == 115) = false := beq_eq_false_iff_ne.mpr c61
                                have c61b1 : (t250 != 115) = true := bne_iff_ne.mpr c61
                                obtain rfl := Option.some.inj H
                                go_wp2_with (first | (go_at_call 15; (with_reducible refine (term_Kind.calls t237 t249 _ A58.out).mono ?_); rintro e w66 ⟨rfl, hb⟩; have n0_ := Aside0.mk (below_step (by repeat (first | (with_reducible first | exact HB.out | apply below_alloc | apply pw_below_drewN | apply below_drew1) | exact HB.out)) hb); clear HB; have HB := n0_; clear n0_; (try clear hb); (try clear hb2); (try clear hk); (try clear hi)) | (go_at_call 15; (with_reducible refine (term_Kind.calls t241 t250 _ A60.out).mono ?_); rintro e w67 ⟨rfl, hb⟩; have n0_ := Aside0.mk (below_step (by repeat (first | (with_reducible first | exact HB.out | apply below_alloc | apply pw_below_drewN | apply below_drew1) | exact HB.out)) hb); clear HB; have HB := n0_; clear n0_; (try clear hb); (try clear hb2); (try clear hk); (try clear hi)))
                                go_ret
                                exact ⟨by first | rfl | (simp [errW_none, errW_some] <;> rfl) | (simp [*, errW_none, errW_some] <;> rfl), by repeat (first | (with_reducible first | exact HB.out | apply below_alloc | apply pw_below_drewN | apply below_drew1) | exact HB.out)⟩
                            · rw [if_neg c59] at H
                              have c59b0 : (t249 == 112) = false := beq_eq_false_iff_ne.mpr c59
                              have c59b1 : (t249 != 112) = true := bne_iff_ne.mpr c59
                              obtain rfl := Option.some.inj H
                              go_wp2_with (first | (go_at_call 15; (with_reducible refine (term_Kind.calls t237 t249 _ A58.out).mono ?_); rintro e w68 ⟨rfl, hb⟩; have n0_ := Aside0.mk (below_step (by repeat (first | (with_reducible first | exact HB.out | apply below_alloc | apply pw_below_drewN | apply below_drew1) | exact HB.out)) hb); clear HB; have HB := n0_; clear n0_; (try clear hb); (try clear hb2); (try clear hk); (try clear hi)))
                              go_ret
                              exact ⟨by first | rfl | (simp [errW_none, errW_some] <;> rfl) | (simp [*, errW_none, errW_some] <;> rfl), by repeat (first | (with_reducible first | exact HB.out | apply below_alloc | apply pw_below_drewN | apply below_drew1) | exact HB.out)⟩
            · rw [if_neg c51] at H
              have c51b0 : (t233.toList == t235.toList) = false := beq_eq_false_iff_ne.mpr c51
              have c51b1 : (t233.toList != t235.toList) = true := bne_iff_ne.mpr c51
              by_cases d12 : t237.toList = t239.toList
              · have d12b0 : (t237.toList == t239.toList) = true := beq_iff_eq.mpr d12
                have d12b1 : (t237.toList != t239.toList) = false := bne_eq_false_iff_eq.mpr d12
                clear d12
                have c69 : ((t237.toList == t239.toList) == false) = false := by rw [d12b0]; rfl
                rw [if_neg (by rw [c69]; decide)] at H
                clear c69
                obtain rfl := Option.some.inj H
                go_wp2
                go_ret
                exact ⟨by first | rfl | (simp [errW_none, errW_some] <;> rfl) | (simp [*, errW_none, errW_some] <;> rfl), by repeat (first | (with_reducible first | exact HB.out | apply below_alloc | apply pw_below_drewN | apply below_drew1) | exact HB.out)⟩
              · have d12b0 : (t237.toList == t239.toList) = false := beq_eq_false_iff_ne.mpr d12
                have d12b1 : (t237.toList != t239.toList) = true := bne_iff_ne.mpr d12
                clear d12
                have c69 : ((t237.toList == t239.toList) == false) = true := by rw [d12b0]; rfl
                rw [if_pos c69] at H
                clear c69
                by_cases d13 : t241.toList = t243.toList
                · have d13b0 : (t241.toList == t243.toList) = true := beq_iff_eq.mpr d13
                  have d13b1 : (t241.toList != t243.toList) = false := bne_eq_false_iff_eq.mpr d13
                  clear d13
                  have c70 : ((t241.toList == t243.toList) == false) = false := by rw [d13b0]; rfl
                  rw [if_neg (by rw [c70]; decide)] at H
                  clear c70
                  obtain rfl := Option.some.inj H
                  go_wp2
                  go_ret
                  exact ⟨by first | rfl | (simp [errW_none, errW_some] <;> rfl) | (simp [*, errW_none, errW_some] <;> rfl), by repeat (first | (with_reducible first | exact HB.out | apply below_alloc | apply pw_below_drewN | apply below_drew1) | exact HB.out)⟩
                · have d13b0 : (t241.toList == t243.toList) = false := beq_eq_false_iff_ne.mpr d13
                  have d13b1 : (t241.toList != t243.toList) = true := bne_iff_ne.mpr d13
                  clear d13
                  have c70 : ((t241.toList == t243.toList) == false) = true := by rw [d13b0]; rfl
                  rw [if_pos c70] at H
                  clear c70
                  by_cases d14 : t245.toList = t247.toList
                  · have d14b0 : (t245.toList == t247.toList) = true := beq_iff_eq.mpr d14
                    have d14b1 : (t245.toList != t247.toList) = false := bne_eq_false_iff_eq.mpr d14
                    clear d14
                    have c71 : ((t245.toList == t247.toList) == false) = false := by rw [d14b0]; rfl
                    rw [if_neg (by rw [c71]; decide)] at H
                    clear c71
                    obtain rfl := Option.some.inj H
                    go_wp2
                    go_ret
                    exact ⟨by first | rfl | (simp [errW_none, errW_some] <;> rfl) | (simp [*, errW_none, errW_some] <;> rfl), by repeat (first | (with_reducible first | exact HB.out | apply below_alloc | apply pw_below_drewN | apply below_drew1) | exact HB.out)⟩
                  · have d14b0 : (t245.toList == t247.toList) = false := beq_eq_false_iff_ne.mpr d14
                    have d14b1 : (t245.toList != t247.toList) = true := bne_iff_ne.mpr d14
                    clear d14
                    have c71 : ((t245.toList == t247.toList) == false) = true := by rw [d14b0]; rfl
                    rw [if_pos c71] at H
                    clear c71
                    by_cases c72 : t237.toList = t241.toList
                    · rw [if_pos c72] at H
                      have c72b0 : (t237.toList == t241.toList) = true := beq_iff_eq.mpr c72
                      have c72b1 : (t237.toList != t241.toList) = false := bne_eq_false_iff_eq.mpr c72
                      clear c72
                      obtain rfl := Option.some.inj H
                      go_wp2
                      go_ret
                      exact ⟨by first | rfl | (simp [errW_none, errW_some] <;> rfl) | (simp [*, errW_none, errW_some] <;> rfl), by repeat (first | (with_reducible first | exact HB.out | apply below_alloc | apply pw_below_drewN | apply below_drew1) | exact HB.out)⟩
                    · rw [if_neg c72] at H
                      have c72b0 : (t237.toList == t241.toList) = false := beq_eq_false_iff_ne.mpr c72
                      have c72b1 : (t237.toList != t241.toList) = true := bne_iff_ne.mpr c72
                      by_cases c73 : t241.toList = t245.toList
                      · rw [if_pos c73] at H
                        have c73b0 : (t241.toList == t245.toList) = true := beq_iff_eq.mpr c73
                        have c73b1 : (t241.toList != t245.toList) = false := bne_eq_false_iff_eq.mpr c73
                        clear c73
                        obtain rfl := Option.some.inj H
                        go_wp2
                        go_ret
                        exact ⟨by first | rfl | (simp [errW_none, errW_some] <;> rfl) | (simp [*, errW_none, errW_some] <;> rfl), by repeat (first | (with_reducible first | exact HB.out | apply below_alloc | apply pw_below_drewN | apply below_drew1) | exact HB.out)⟩
                      · rw [if_neg c73] at H
                        have c73b0 : (t241.toList == t245.toList) = false := beq_eq_false_iff_ne.mpr c73
                        have c73b1 : (t241.toList != t245.toList) = true := bne_iff_ne.mpr c73
                        by_cases c74 : t237.toList = t245.toList
                        · rw [if_pos c74] at H
                          have c74b0 : (t237.toList == t245.toList) = true := beq_iff_eq.mpr c74
                          have c74b1 : (t237.toList != t245.toList) = false := bne_eq_false_iff_eq.mpr c74
                          clear c74
                          obtain rfl := Option.some.inj H
                          go_wp2
                          go_ret
                          exact ⟨by first | rfl | (simp [errW_none, errW_some] <;> rfl) | (simp [*, errW_none, errW_some] <;> rfl), by repeat (first | (with_reducible first | exact HB.out | apply below_alloc | apply pw_below_drewN | apply below_drew1) | exact HB.out)⟩
                        · rw [if_neg c74] at H
                          have c74b0 : (t237.toList == t245.toList) = false := beq_eq_false_iff_ne.mpr c74
                          have c74b1 : (t237.toList != t245.toList) = true := bne_iff_ne.mpr c74
                          replace H := Option.bind_eq_some_iff.mp H
                          obtain ⟨t252, A750, H⟩ := H
                          replace H : (if t252 = 112 then ((term_Kind.f t241).bind fun t253 => (if t253 = 115 then ((term_Kind.f t245).bind fun t254 => (some (t254 == 103))) else (some false))) else (some false)) = some r := H
                          have A75 := Aside0.mk A750
                          clear A750
                          by_cases c76 : t252 = 112
                          · rw [if_pos c76] at H
                            have c76b0 : (t252 == 112) = true := beq_iff_eq.mpr c76
                            have c76b1 : (t252 != 112) = false := bne_eq_false_iff_eq.mpr c76
                            clear c76
                            replace H := Option.bind_eq_some_iff.mp H
                            obtain ⟨t253, A770, H⟩ := H
                            replace H : (if t253 = 115 then ((term_Kind.f t245).bind fun t254 => (some (t254 == 103))) else (some false)) = some r := H
                            have A77 := Aside0.mk A770
                            clear A770
                            by_cases c78 : t253 = 115
                            · rw [if_pos c78] at H
                              have c78b0 : (t253 == 115) = true := beq_iff_eq.mpr c78
                              have c78b1 : (t253 != 115) = false := bne_eq_false_iff_eq.mpr c78
                              clear c78
                              replace H := Option.bind_eq_some_iff.mp H
                              obtain ⟨t254, A790, H⟩ := H
                              replace H : (some (t254 == 103)) = some r := H
                              have A79 := Aside0.mk A790
                              clear A790
                              obtain rfl := Option.some.inj H
                              go_wp2_with (first | (go_at_call 15; (with_reducible refine (term_Kind.calls t237 t252 _ A75.out).mono ?_); rintro e w80 ⟨rfl, hb⟩; have n0_ := Aside0.mk (below_step (by repeat (first | (with_reducible first | exact HB.out | apply below_alloc | apply pw_below_drewN | apply below_drew1) | exact HB.out)) hb); clear HB; have HB := n0_; clear n0_; (try clear hb); (try clear hb2); (try clear hk); (try clear hi)) | (go_at_call 15; (with_reducible refine (term_Kind.calls t241 t253 _ A77.out).mono ?_); rintro e w81 ⟨rfl, hb⟩; have n0_ := Aside0.mk (below_step (by repeat (first | (with_reducible first | exact HB.out | apply below_alloc | apply pw_below_drewN | apply below_drew1) | exact HB.out)) hb); clear HB; have HB := n0_; clear n0_; (try clear hb); (try clear hb2); (try clear hk); (try clear hi)) | (go_at_call 15; (with_reducible refine (term_Kind.calls t245 t254 _ A79.out).mono ?_); rintro e w82 ⟨rfl, hb⟩; have n0_ := Aside0.mk (below_step (by repeat (first | (with_reducible first | exact HB.out | apply below_alloc | apply pw_below_drewN | apply below_drew1) | exact HB.out)) hb); clear HB; have HB := n0_; clear n0_; (try clear hb); (try clear hb2); (try clear hk); (try clear hi)))
                              go_ret
                              exact ⟨by first | rfl | (simp [errW_none, errW_some] <;> rfl) | (simp [*, errW_none, errW_some] <;> rfl), by repeat (first | (with_reducible first | exact HB.out | apply below_alloc | apply pw_below_drewN | apply below_drew1) | exact HB.out)⟩
                            · rw [if_neg c78] at H
                              have c78b0 : (t253 == 115) = false := beq_eq_false_iff_ne.mpr c78
                              have c78b1 : (t253 != 115) = true := bne_iff_ne.mpr c78
                              obtain rfl := Option.some.inj H
                              go_wp2_with (first | (go_at_call 15; (with_reducible refine (term_Kind.calls t237 t252 _ A75.out).mono ?_); rintro e w83 ⟨rfl, hb⟩; have n0_ := Aside0.mk (below_step (by repeat (first | (with_reducible first | exact HB.out | apply below_alloc | apply pw_below_drewN | apply below_drew1) | exact HB.out)) hb); clear HB; have HB := n0_; clear n0_; (try clear hb); (try clear hb2); (try clear hk); (try clear hi)) | (go_at_call 15; (with_reducible refine (term_Kind.calls t241 t253 _ A77.out).mono ?_); rintro e w84 ⟨rfl, hb⟩; have n0_ := Aside0.mk (below_step (by repeat (first | (with_reducible first | exact HB.out | apply below_alloc | apply pw_below_drewN | apply below_drew1) | exact HB.out)) hb); clear HB; have HB := n0_; clear n0_; (try clear hb); (try clear hb2); (try clear hk); (try clear hi)))
                              go_ret
                              exact ⟨by first | rfl | (simp [errW_none, errW_some] <;> rfl) | (simp [*, errW_none, errW_some] <;> rfl), by repeat (first | (with_reducible first | exact HB.out | apply below_alloc | apply pw_below_drewN | apply below_drew1) | exact HB.out)⟩
                          · rw [if_neg c76] at H
                            have c76b0 : (t252 == 112) = false := beq_eq_false_iff_ne.mpr c76
                            have c76b1 : (t252 != 112) = true := bne_iff_ne.mpr c76
                            obtain rfl := Option.some.inj H
                            go_wp2_with (first | (go_at_call 15; (with_reducible refine (term_Kind.calls t237 t252 _ A75.out).mono ?_); rintro e w85 ⟨rfl, hb⟩; have n0_ := Aside0.mk (below_step (by repeat (first | (with_reducible first | exact HB.out | apply below_alloc | apply pw_below_drewN | apply below_drew1) | exact HB.out)) hb); clear HB; have HB := n0_; clear n0_; (try clear hb); (try clear hb2); (try clear hk); (try clear hi)))
                            go_ret
                            exact ⟨by first | rfl | (simp [errW_none, errW_some] <;> rfl) | (simp [*, errW_none, errW_some] <;> rfl), by repeat (first | (with_reducible first | exact HB.out | apply below_alloc | apply pw_below_drewN | apply below_drew1) | exact HB.out)⟩
  · replace c6 := Bool.eq_false_iff.mpr c6
    subst c6
    have H1 : (some false) = some r := by rw [if_neg (show ¬ (false = true) by decide)] at H; exact H
    clear H
    have H := H1
    clear H1
    obtain rfl := Option.some.inj H
    go_enter Try.func3, Try.ntmps3
    go_wp2_with (first | ((with_reducible refine gate_callee (f := 10) rfl ?_); refine goesL_ (some 27) rfl rfl Try.func10 (by kernel_rfl) rfl #[] rfl (by (try simp only [List.map_toArray, List.map_cons, List.map_nil]); first | done | rfl | (simp only [List.length_drop, List.length_take]; rfl)) ?_; (with_reducible refine (letterlocklaw3_shown.calls k  false _ A5.out).mono ?_); rintro e w86 ⟨rfl, hb⟩; refine ⟨_, rfl, ?_⟩; have n0_ := Aside0.mk (below_step (by repeat (first | (with_reducible first | exact HB.out | apply below_alloc | apply pw_below_drewN | apply below_drew1) | exact HB.out)) hb); clear HB; have HB := n0_; clear n0_; (try clear hb); (try clear hb2); (try clear hk); (try clear hi)))
    go_ret
    exact ⟨by first | rfl | (simp [errW_none, errW_some] <;> rfl) | (simp [*, errW_none, errW_some] <;> rfl), by repeat (first | (with_reducible first | exact HB.out | apply below_alloc | apply pw_below_drewN | apply below_drew1) | exact HB.out)⟩

/-- THE ONE PURE STATEMENT of letterlocklaw3_TermPairs: yours. -/
def letterlocklaw3_TermPairs.Pure : Prop := ∀ (l0 : List Int) (l1 : List Int) (l2 : List Int) (l3 : List Int), l0.length ≤ maxLen → l0.length * 8 ≤ 140737488351232 → (∀ x ∈ l0, (Lit.int .i64 x).wf = true) → l1.length ≤ maxLen → l1.length * 8 ≤ 140737488351232 → (∀ x ∈ l1, (Lit.int .i64 x).wf = true) → l2.length ≤ maxLen → l2.length * 8 ≤ 140737488351232 → (∀ x ∈ l2, (Lit.int .i64 x).wf = true) → l3.length ≤ maxLen → l3.length * 8 ≤ 140737488351232 → (∀ x ∈ l3, (Lit.int .i64 x).wf = true) → ∃ k, letterlocklaw3_TermPairs.f k l0 l1 l2 l3 = some true
theorem letterlocklaw3_TermPairs.walk (P : letterlocklaw3_TermPairs.Pure) (a0 : Option Addr) (len0 cap0 : Nat) (z0 : List Int) (a1 : Option Addr) (len1 cap1 : Nat) (z1 : List Int) (a2 : Option Addr) (len2 cap2 : Nat) (z2 : List Int) (a3 : Option Addr) (len3 cap3 : Nat) (z3 : List Int) (w : World) (w0 : (a0 = none ∧ len0 = 0 ∧ cap0 = 0 ∧ z0 = []) ∨ ∃ x, a0 = some x ∧ len0 ≤ cap0 ∧ cap0 ≤ maxLen ∧ z0.length = cap0 ∧ (∀ i, i < z0.length → w.cell? (x.add i) = some (.int .i64 (z0.getD i 0))) ∧ ∀ n ∈ z0, (Lit.int .i64 n).wf = true) (y0 : len0 * 8 ≤ 140737488351232) (w1 : (a1 = none ∧ len1 = 0 ∧ cap1 = 0 ∧ z1 = []) ∨ ∃ x, a1 = some x ∧ len1 ≤ cap1 ∧ cap1 ≤ maxLen ∧ z1.length = cap1 ∧ (∀ i, i < z1.length → w.cell? (x.add i) = some (.int .i64 (z1.getD i 0))) ∧ ∀ n ∈ z1, (Lit.int .i64 n).wf = true) (y1 : len1 * 8 ≤ 140737488351232) (w2 : (a2 = none ∧ len2 = 0 ∧ cap2 = 0 ∧ z2 = []) ∨ ∃ x, a2 = some x ∧ len2 ≤ cap2 ∧ cap2 ≤ maxLen ∧ z2.length = cap2 ∧ (∀ i, i < z2.length → w.cell? (x.add i) = some (.int .i64 (z2.getD i 0))) ∧ ∀ n ∈ z2, (Lit.int .i64 n).wf = true) (y2 : len2 * 8 ≤ 140737488351232) (w3 : (a3 = none ∧ len3 = 0 ∧ cap3 = 0 ∧ z3 = []) ∨ ∃ x, a3 = some x ∧ len3 ≤ cap3 ∧ cap3 ≤ maxLen ∧ z3.length = cap3 ∧ (∀ i, i < z3.length → w.cell? (x.add i) = some (.int .i64 (z3.getD i 0))) ∧ ∀ n ∈ z3, (Lit.int .i64 n).wf = true) (y3 : len3 * 8 ≤ 140737488351232) :
    Calls Try.prog 3 #[.slice a0 len0 cap0, .slice a1 len1 cap1, .slice a2 len2 cap2, .slice a3 len3 cap3] w fun e w' => e = .returned (.bool true) ∧ Below w.heap.size w w' := by
  obtain ⟨l0, rfl, hr0, hm0, hw0, hc0⟩ := ReadsInt.ofRowC w0
  obtain ⟨l1, rfl, hr1, hm1, hw1, hc1⟩ := ReadsInt.ofRowC w1
  obtain ⟨l2, rfl, hr2, hm2, hw2, hc2⟩ := ReadsInt.ofRowC w2
  obtain ⟨l3, rfl, hr3, hm3, hw3, hc3⟩ := ReadsInt.ofRowC w3
  obtain ⟨k, h⟩ := P l0 l1 l2 l3 hm0 y0 hw0 hm1 y1 hw1 hm2 y2 hw2 hm3 y3 hw3
  refine (letterlocklaw3_TermPairs.calls k _ _ l0 _ _ l1 _ _ l2 _ _ l3 true w (Kd.C_of_reads (d := (0 : Int)) (h1 := fun _ => rfl) hr0) hc0 (Kd.C_of_reads (d := (0 : Int)) (h1 := fun _ => rfl) hr1) hc1 (Kd.C_of_reads (d := (0 : Int)) (h1 := fun _ => rfl) hr2) hc2 (Kd.C_of_reads (d := (0 : Int)) (h1 := fun _ => rfl) hr3) hc3 h).mono ?_
  rintro e w' ⟨rfl, hd⟩
  exact ⟨rfl, hd⟩

end Go.Proofs.Ytfkkmagiobfeiaa.P
