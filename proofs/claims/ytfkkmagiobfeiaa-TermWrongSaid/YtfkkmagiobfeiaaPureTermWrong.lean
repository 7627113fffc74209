/- TermWrong: of a term of another kind nothing is opened, unboxed, told as a number, or as words; what is no term is no argument. -/
import Derived.Test.YtfkkmagiobfeiaaELaw3
import Derived.Test.YtfkkmagiobfeiaaGLTermWrong
namespace Go.Proofs.Ytfkkmagiobfeiaa.Pure
set_option linter.unusedVariables false
set_option linter.unusedSimpArgs false
open Go.RowKit Go.Proofs.Ytfkkmagiobfeiaa.P Go.Proofs.YtfkkmagiobfeiaaW.PrintWords Go.Proofs.YtfkkmagiobfeiaaW.PrintLast Go.Proofs.YtfkkmagiobfeiaaW.PrintMore
theorem kind_right {t : List UInt8} (h : right t = true) : kindL t = t.getD 0 0 := by rw [kindL, if_pos h]
theorem kind_zero {t : List UInt8} (h : kindL t = 0) : right t = false := by
  cases hr : right t
  · rfl
  · rw [kind_right hr] at h
    obtain ⟨c, r, rfl, hl, htl⟩ := right_cons hr
    have hc : c = 0 := h
    subst hc
    rw [tlen, if_neg (by decide), if_neg (by decide), if_neg (by decide), if_neg (by decide)] at htl
    omega
theorem under_form (k : UInt8) (a b : List UInt8) : ((underL k a b).2 == 2) = ! (b.getD 0 0 == k) := by
  unfold underL
  by_cases h : b.getD 0 0 = k
  · rw [if_pos h, beq_iff_eq.mpr h]
    split <;> rfl
  · rw [if_neg h, beq_eq_false_iff_ne.mpr h]
    rfl
theorem kind_test (c : UInt8) (n : Nat) (hn : n < 256) : (((c.toNat : Nat) : Int) != (n : Int)) = ! (c == UInt8.ofNat n) := by
  by_cases h : c = UInt8.ofNat n
  · rw [beq_iff_eq.mpr h, bne_eq_false_iff_eq.mpr ((eq_byte hn).mpr h)]; rfl
  · rw [beq_eq_false_iff_ne.mpr h, bne_iff_ne.mpr (fun e => h ((eq_byte hn).mp e))]; rfl
theorem wrong_j1 (a b s : List UInt8) (ha : right a = true) (hb : right b = true) : Ev (fun k => letterlocklaw3_TermWrong.j1 k (B s) (B a) (B b) false) true := by
  refine ⟨1, fun k hk => ?_⟩
  obtain ⟨k, rfl⟩ : ∃ m, k = m + 1 := ⟨k - 1, by omega⟩
  show letterlocklaw3_TermWrong.j1 (k + 1) _ _ _ _ = _
  rw [letterlocklaw3_TermWrong.j1, if_neg (by decide), show term_Kind.f (B s) = some ((kindL s).toNat : Int) from rfl, Option.bind_some]
  by_cases h : kindL s = 0
  · have hr := kind_zero h
    rw [if_pos (by rw [h]; rfl), show term_Open.f (B s) (B b) = some (pr (openL s b)) from rfl, Option.bind_some, show term_Unbox.f (B a) (B s) = some (pr (unboxL a s)) from rfl, Option.bind_some,
      show term_Number.f (B s) = some (((numberL s).1 : Int), (numberL s).2) from rfl, Option.bind_some, show term_Words.f (B s) = some (B (wordsL s).1, (wordsL s).2) from rfl, Option.bind_some,
      show term_Parts.f (B s) = some ((partsE s).1.map B, (partsE s).2) from rfl, Option.bind_some]
    have e1 : openL s b = ([], 1) := by rw [openL, hr]; rfl
    have e2 : unboxL a s = ([], 1) := by rw [unboxL, hr, Bool.and_false]; rfl
    have e3 : numberL s = (0, 1) := by rw [numberL, hr]; rfl
    have e4 : wordsL s = ([], 1) := by rw [wordsL, hr]; rfl
    have e5 : partsE s = ([], 1) := by rw [partsE, hr]; rfl
    have v1 : verifyL a b s = 1 := by rw [verifyL, hr, Bool.and_false]; rfl
    have v2 : verifyL s a b = 1 := by rw [verifyL, hr]; rfl
    have v3 : verifyL a s b = 1 := by rw [verifyL, hr, Bool.and_false]; rfl
    rw [e1, e2, e3, e4, e5]
    unfold pr
    rw [if_pos rfl, if_pos rfl, if_pos rfl, if_pos rfl, if_pos rfl, show term_Verify.f (B a) (B b) (B s) = some (verifyL a b s) from rfl, v1, Option.bind_some, if_pos rfl, show term_Verify.f (B s) (B a) (B b) = some (verifyL s a b) from rfl, v2, Option.bind_some, if_pos rfl, show term_Verify.f (B a) (B s) (B b) = some (verifyL a s b) from rfl, v3, Option.bind_some]
    rfl
  · rw [if_neg (fun e => h (UInt8.toNat_inj.mp (by have e : ((kindL s).toNat : Int) = 0 := e; exact_mod_cast e)))]
theorem wrong_j0 (s : List UInt8) (l m : List Int) (b : Bool) (hl : ∀ x ∈ l, (Lit.int .i64 x).wf = true) (hm : ∀ x ∈ m, (Lit.int .i64 x).wf = true) : Ev (fun k => letterlocklaw3_TermWrong.j0 k l m (B s) b false) true := by
  obtain ⟨x, hx, K1, e1⟩ := letterlocklaw3_grown.ev l hl
  obtain ⟨y, hy, K2, e2⟩ := letterlocklaw3_grown.ev m hm
  obtain ⟨K3, e3⟩ := wrong_j1 x y s hx hy
  refine ⟨K1 + K2 + K3 + 1, fun k hk => ?_⟩
  obtain ⟨k, rfl⟩ : ∃ m, k = m + 1 := ⟨k - 1, by omega⟩
  have g1 : letterlocklaw3_grown.f k l = _ := e1 k (by omega)
  have g2 : letterlocklaw3_grown.f k m = _ := e2 k (by omega)
  have g3 : letterlocklaw3_TermWrong.j1 k (B s) (B x) (B y) false = _ := e3 k (by omega)
  have hk : kindL y = y.getD 0 0 := kind_right hy
  have t1 : (((openL x y).2 == 2) != (((kindL y).toNat : Int) != 115)) = false := by
    rw [openL, hx, hy, Bool.and_self, if_pos rfl, under_form, hk, show ((((y.getD 0 0).toNat : Nat) : Int) != 115) = ! (y.getD 0 0 == 115) from kind_test _ 115 (by decide), bne_self_eq_false]
  have t2 : (((unboxL x y).2 == 2) != (((kindL y).toNat : Int) != 98)) = false := by
    rw [unboxL, hx, hy, Bool.and_self, if_pos rfl, under_form, hk, show ((((y.getD 0 0).toNat : Nat) : Int) != 98) = ! (y.getD 0 0 == 98) from kind_test _ 98 (by decide), bne_self_eq_false]
  have t3 : (((numberL y).2 == 2) != (((kindL y).toNat : Int) != 97)) = false := by
    rw [numberL, hy, if_pos rfl, hk, show ((((y.getD 0 0).toNat : Nat) : Int) != 97) = ! (y.getD 0 0 == 97) from kind_test _ 97 (by decide)]
    by_cases h : y.getD 0 0 = 97
    · rw [if_pos h, h]; rfl
    · rw [if_neg h, beq_eq_false_iff_ne.mpr h]; rfl
  have t4 : (((wordsL y).2 == 2) != (((kindL y).toNat : Int) != 116)) = false := by
    rw [wordsL, hy, if_pos rfl, hk, show ((((y.getD 0 0).toNat : Nat) : Int) != 116) = ! (y.getD 0 0 == 116) from kind_test _ 116 (by decide)]
    by_cases h : y.getD 0 0 = 116
    · rw [if_pos h, h]; rfl
    · rw [if_neg h, beq_eq_false_iff_ne.mpr h]; rfl
  show letterlocklaw3_TermWrong.j0 (k + 1) _ _ _ _ _ = _
  rw [letterlocklaw3_TermWrong.j0, if_neg (by decide), g1, Option.bind_some, g2, Option.bind_some, show term_Open.f (B x) (B y) = some (pr (openL x y)) from rfl, Option.bind_some, show term_Unbox.f (B x) (B y) = some (pr (unboxL x y)) from rfl, Option.bind_some,
    show term_Number.f (B y) = some (((numberL y).1 : Int), (numberL y).2) from rfl, Option.bind_some, show term_Words.f (B y) = some (B (wordsL y).1, (wordsL y).2) from rfl, Option.bind_some,
    show term_Kind.f (B y) = some ((kindL y).toNat : Int) from rfl, Option.bind_some]
  unfold pr
  rw [t1, if_neg (by decide), t2, if_neg (by decide), t3, if_neg (by decide), t4, g3]
theorem TermWrong : letterlocklaw3_TermWrong.Pure := by
  intro l2 l3 a0 hl2 hl2' w2 hl3 hl3' w3 hs0
  obtain ⟨s, rfl, hs⟩ := ofB a0
  obtain ⟨K0, e0⟩ := letterlocklaw3_shown.ev
  by_cases hb : s.length ≤ 1000
  · obtain ⟨K1, e1⟩ := wrong_j0 s l2 l3 true w2 w3
    refine ⟨K0 + K1, ?_⟩
    have g0 : letterlocklaw3_shown.f (K0 + K1) = _ := e0 _ (by omega)
    have g1 : letterlocklaw3_TermWrong.j0 (K0 + K1) l2 l3 (B s) true false = _ := e1 _ (by omega)
    unfold letterlocklaw3_TermWrong.f
    rw [g0, Option.bind_some, if_pos rfl, show decide (((B s).size : Int) > 1000) = false from decide_eq_false (by rw [size_B]; omega), g1]
  · refine ⟨K0 + 1, ?_⟩
    have g0 : letterlocklaw3_shown.f (K0 + 1) = _ := e0 _ (by omega)
    unfold letterlocklaw3_TermWrong.f
    rw [g0, Option.bind_some, if_pos rfl, show decide (((B s).size : Int) > 1000) = true from decide_eq_true (by rw [size_B]; omega), letterlocklaw3_TermWrong.j0, if_pos rfl]
end Go.Proofs.Ytfkkmagiobfeiaa.Pure
