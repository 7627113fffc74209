/- TermMakes: the terms that are made of any bytes are the document's. -/
import Derived.Test.YtfkkmagiobfeiaaELaw3
import Derived.Test.YtfkkmagiobfeiaaGLTermMakes
namespace Go.Proofs.Ytfkkmagiobfeiaa.Pure
set_option linter.unusedVariables false
set_option linter.unusedSimpArgs false
open Go.RowKit Go.Proofs.Ytfkkmagiobfeiaa.P Go.Proofs.YtfkkmagiobfeiaaW.PrintWords Go.Proofs.YtfkkmagiobfeiaaW.PrintLast Go.Proofs.YtfkkmagiobfeiaaW.PrintMore
theorem makes_end (n : Nat) (hn : n < 18446744073709551616) (s t : List UInt8) (l m : List Int) (b : Bool) (hs : s.length ≤ 5000) (ht : t.length ≤ 5000) (hl : ∀ x ∈ l, (Lit.int .i64 x).wf = true) (hm : ∀ x ∈ m, (Lit.int .i64 x).wf = true) :
    Ev (fun k => letterlocklaw3_TermMakes.j0 k (n : Int) (B s) (B t) l m b false) true := by
  obtain ⟨x, hx, K1, e1⟩ := letterlocklaw3_grown.ev l hl
  obtain ⟨y, hy, K2, e2⟩ := letterlocklaw3_grown.ev m hm
  have lx := (right_pos hx).2
  have ly := (right_pos hy).2
  obtain ⟨K3, e3⟩ := letterlocklaw3_made.ev n hn s t (by omega) (by omega)
  obtain ⟨K4, e4⟩ := letterlocklaw3_made.ev n hn x t (by omega) (by omega)
  obtain ⟨K5, e5⟩ := letterlocklaw3_made.ev n hn s x (by omega) (by omega)
  obtain ⟨K6, e6⟩ := letterlocklaw3_made.ev n hn x y (by omega) (by omega)
  refine ⟨K1 + K2 + K3 + K4 + K5 + K6 + 1, fun k hk => ?_⟩
  obtain ⟨k, rfl⟩ : ∃ m, k = m + 1 := ⟨k - 1, by omega⟩
  have g1 : letterlocklaw3_grown.f k l = _ := e1 k (by omega)
  have g2 : letterlocklaw3_grown.f k m = _ := e2 k (by omega)
  have g3 : letterlocklaw3_made.f k (n : Int) (B s) (B t) = _ := e3 k (by omega)
  have g4 : letterlocklaw3_made.f k (n : Int) (B x) (B t) = _ := e4 k (by omega)
  have g5 : letterlocklaw3_made.f k (n : Int) (B s) (B x) = _ := e5 k (by omega)
  have g6 : letterlocklaw3_made.f k (n : Int) (B x) (B y) = _ := e6 k (by omega)
  show letterlocklaw3_TermMakes.j0 (k + 1) _ _ _ _ _ _ _ = _
  rw [letterlocklaw3_TermMakes.j0, if_neg (by decide), g1, Option.bind_some, g2, Option.bind_some, g3, Option.bind_some, if_pos rfl, g4, Option.bind_some, if_pos rfl, g5, Option.bind_some, if_pos rfl, g6, Option.bind_some]
theorem TermMakes : letterlocklaw3_TermMakes.Pure := by
  intro a a0 a1 l2 l3 wa hs0 hs1 hl2 hl2' w2 hl3 hl3' w3
  obtain ⟨n, rfl, hn⟩ := wf64 wa
  obtain ⟨s, rfl, hs⟩ := ofB a0
  obtain ⟨t, rfl, ht⟩ := ofB a1
  obtain ⟨K0, e0⟩ := letterlocklaw3_shown.ev
  by_cases hb : s.length ≤ 5000 ∧ t.length ≤ 5000
  · obtain ⟨K1, e1⟩ := makes_end n hn s t l2 l3 true hb.1 hb.2 w2 w3
    refine ⟨K0 + K1, ?_⟩
    have g0 : letterlocklaw3_shown.f (K0 + K1) = _ := e0 _ (by omega)
    have g1 : letterlocklaw3_TermMakes.j0 (K0 + K1) (n : Int) (B s) (B t) l2 l3 true false = _ := e1 _ (by omega)
    unfold letterlocklaw3_TermMakes.f
    rw [g0, Option.bind_some, if_pos rfl, if_neg (by rw [size_B]; omega), show decide (((B t).size : Int) > 5000) = false from decide_eq_false (by rw [size_B]; omega), g1]
  · refine ⟨K0 + 1, ?_⟩
    have g0 : letterlocklaw3_shown.f (K0 + 1) = _ := e0 _ (by omega)
    have g1 : letterlocklaw3_TermMakes.j0 (K0 + 1) (n : Int) (B s) (B t) l2 l3 true true = some true := by rw [letterlocklaw3_TermMakes.j0, if_pos rfl]
    unfold letterlocklaw3_TermMakes.f
    rw [g0, Option.bind_some, if_pos rfl]
    by_cases h1 : s.length ≤ 5000
    · rw [if_neg (by rw [size_B]; omega), show decide (((B t).size : Int) > 5000) = true from decide_eq_true (by rw [size_B]; omega), g1]
    · rw [if_pos (by rw [size_B]; omega), g1]
end Go.Proofs.Ytfkkmagiobfeiaa.Pure
