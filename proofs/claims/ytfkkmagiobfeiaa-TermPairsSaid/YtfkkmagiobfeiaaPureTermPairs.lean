/- TermPairs: two pairs are the same just if both parts are; likewise sealed and signed; a term is no other kind's. -/
import Derived.Test.YtfkkmagiobfeiaaELaw3
import Derived.Test.YtfkkmagiobfeiaaGLTermPairs
namespace Go.Proofs.Ytfkkmagiobfeiaa.Pure
set_option linter.unusedVariables false
set_option linter.unusedSimpArgs false
open Go.RowKit Go.Proofs.Ytfkkmagiobfeiaa.P Go.Proofs.YtfkkmagiobfeiaaW.PrintWords Go.Proofs.YtfkkmagiobfeiaaW.PrintLast Go.Proofs.YtfkkmagiobfeiaaW.PrintMore
theorem right_tlen {a : List UInt8} (h : right a = true) : tlen 40 a = a.length ∧ tlen 40 a ≠ 0 := by
  obtain ⟨h1, -, h3⟩ := (right_iff _).mp h
  exact ⟨h3, by rw [h3]; exact Nat.ne_of_gt (List.length_pos_iff.mpr h1)⟩
theorem pair_inj {a b c d : List UInt8} (ha : right a = true) (hc : right c = true) (h : a ++ b = c ++ d) : a = c ∧ b = d := by
  obtain ⟨a1, a2⟩ := right_tlen ha
  obtain ⟨c1, c2⟩ := right_tlen hc
  have e1 := tlen_append 40 a b a2
  have e2 := tlen_append 40 c d c2
  rw [h, e2] at e1
  exact List.append_inj h (by omega)
/-- A kind of two parts that wants nothing of the first one. -/
def K2 (k : UInt8) : Prop := k = 112 ∨ k = 115 ∨ k = 103
theorem tlen_K2 {k : UInt8} (hk : K2 k) (l : List UInt8) : tlen 40 (k :: l) = if tlen 39 l = 0 then 0 else if tlen 39 (l.drop (tlen 39 l)) = 0 then 0 else 1 + tlen 39 l + tlen 39 (l.drop (tlen 39 l)) := by
  have h : k = 112 ∨ k = 115 ∨ k = 98 ∨ k = 103 := by rcases hk with h | h | h <;> simp [h]
  rw [tlen_two h, if_neg (c := (k = 98 ∧ l.getD 0 0 ≠ 117))]
  rintro ⟨rfl, -⟩
  rcases hk with h | h | h <;> exact absurd h (by decide)
theorem right_kind {k m : UInt8} (hk : K2 k) (hm : K2 m) (l : List UInt8) : right (k :: l) = right (m :: l) := by
  unfold right
  rw [tlen_K2 hk, tlen_K2 hm]
  simp
theorem ofL2 {k : UInt8} {a b : List UInt8} (ha : right a = true) (hb : right b = true) : ofL [k] [a, b] = if right (k :: (a ++ b)) then (k :: (a ++ b), 0) else ([], 10) := by
  unfold ofL
  simp [ha, hb]
theorem eqb_cons (k : UInt8) (l m : List UInt8) : ((k :: l) == (k :: m)) = (l == m) := by
  by_cases h : l = m
  · rw [h, beq_self_eq_true, beq_self_eq_true]
  · rw [beq_eq_false_iff_ne.mpr h, beq_eq_false_iff_ne.mpr (fun e => h (List.cons.inj e).2)]
theorem eqb_app (a l m : List UInt8) : ((a ++ l) == (a ++ m)) = (l == m) := by
  by_cases h : l = m
  · rw [h, beq_self_eq_true, beq_self_eq_true]
  · rw [beq_eq_false_iff_ne.mpr h, beq_eq_false_iff_ne.mpr (fun e => h (List.append_cancel_left e))]
theorem pairs_j0 (a b c d : List UInt8) (ha : right a = true) (hb : right b = true) (hc : right c = true) (hd : right d = true) (k : Nat) (h1 : right (112 :: (a ++ b)) = true) :
    letterlocklaw3_TermPairs.j0 (k + 1) (B a) (B b) (B c) (B d) (B (112 :: (a ++ b))) 0 (B (112 :: (c ++ d))) 0 (B (115 :: (a ++ b))) 0 (B (115 :: (c ++ d))) (B (103 :: (a ++ b))) (B (103 :: (c ++ d))) 0 false = some true := by
  have r2 : right (115 :: (a ++ b)) = true := by rw [right_kind (Or.inr (Or.inl rfl)) (Or.inl rfl)]; exact h1
  have r3 : right (103 :: (a ++ b)) = true := by rw [right_kind (Or.inr (Or.inr rfl)) (Or.inl rfl)]; exact h1
  have k1 : term_Kind.f (B (112 :: (a ++ b))) = some 112 := by show some ((kindL (112 :: (a ++ b))).toNat : Int) = _; rw [kindL, h1, if_pos rfl]; rfl
  have k2 : term_Kind.f (B (115 :: (a ++ b))) = some 115 := by show some ((kindL (115 :: (a ++ b))).toNat : Int) = _; rw [kindL, r2, if_pos rfl]; rfl
  have k3 : term_Kind.f (B (103 :: (a ++ b))) = some 103 := by show some ((kindL (103 :: (a ++ b))).toNat : Int) = _; rw [kindL, r3, if_pos rfl]; rfl
  rw [letterlocklaw3_TermPairs.j0, if_neg (by decide)]
  simp only [toList_B, eqb_cons]
  have fin : (if 112 :: (a ++ b) = 115 :: (a ++ b) then some false else if 115 :: (a ++ b) = 103 :: (a ++ b) then some false else if 112 :: (a ++ b) = 103 :: (a ++ b) then some false else
      (term_Kind.f (B (112 :: (a ++ b)))).bind fun t249 => if t249 = 112 then (term_Kind.f (B (115 :: (a ++ b)))).bind fun t250 => if t250 = 115 then (term_Kind.f (B (103 :: (a ++ b)))).bind fun t251 => some (t251 == 103) else some false else some false) = some true := by
    rw [if_neg (fun e => absurd (List.cons.inj e).1 (by decide)), if_neg (fun e => absurd (List.cons.inj e).1 (by decide)), if_neg (fun e => absurd (List.cons.inj e).1 (by decide)), k1, Option.bind_some, if_pos rfl, k2, Option.bind_some, if_pos rfl, k3, Option.bind_some]
    rfl
  by_cases hac : a = c
  · subst hac
    rw [if_pos rfl, eqb_app, beq_self_eq_true, if_pos rfl, if_pos rfl, if_pos rfl]
    exact fin
  · have hne : ((a ++ b) == (c ++ d)) = false := beq_eq_false_iff_ne.mpr (fun e => hac (pair_inj ha hc e).1)
    rw [if_neg hac, hne, beq_self_eq_true, if_pos rfl, if_pos rfl, if_pos rfl]
    exact fin
theorem TermPairs : letterlocklaw3_TermPairs.Pure := by
  intro l0 l1 l2 l3 hl0 hl0' w0 hl1 hl1' w1 hl2 hl2' w2 hl3 hl3' w3
  obtain ⟨K, e⟩ := letterlocklaw3_shown.ev
  obtain ⟨a, ha, K0, e0⟩ := letterlocklaw3_grown.ev l0 w0
  obtain ⟨b, hb, K1, e1⟩ := letterlocklaw3_grown.ev l1 w1
  obtain ⟨c, hc, K2', e2⟩ := letterlocklaw3_grown.ev l2 w2
  obtain ⟨d, hd, K3, e3⟩ := letterlocklaw3_grown.ev l3 w3
  refine ⟨K + K0 + K1 + K2' + K3 + 1, ?_⟩
  generalize hk : K + K0 + K1 + K2' + K3 = k
  have g : letterlocklaw3_shown.f (k + 1) = _ := e _ (by omega)
  have g0 : letterlocklaw3_grown.f (k + 1) l0 = _ := e0 _ (by omega)
  have g1 : letterlocklaw3_grown.f (k + 1) l1 = _ := e1 _ (by omega)
  have g2 : letterlocklaw3_grown.f (k + 1) l2 = _ := e2 _ (by omega)
  have g3 : letterlocklaw3_grown.f (k + 1) l3 = _ := e3 _ (by omega)
  unfold letterlocklaw3_TermPairs.f
  rw [g, Option.bind_some, if_pos rfl, g0, Option.bind_some, g1, Option.bind_some, g2, Option.bind_some, g3, Option.bind_some]
  split
  · rfl
  · have KP : K2 112 := Or.inl rfl
    have KS : K2 115 := Or.inr (Or.inl rfl)
    have KG : K2 103 := Or.inr (Or.inr rfl)
    rw [term_OfPair.of, Option.bind_some, term_OfPair.of, Option.bind_some, term_Seal.of, Option.bind_some, term_Seal.of, Option.bind_some, term_Sign.of, Option.bind_some, term_Sign.of, Option.bind_some]
    rw [ofL2 ha hb, ofL2 hc hd, ofL2 ha hb, ofL2 hc hd, ofL2 ha hb, ofL2 hc hd, right_kind KS KP, right_kind KS KP, right_kind KG KP, right_kind KG KP]
    cases r1 : right (112 :: (a ++ b))
    · cases r2 : right (112 :: (c ++ d))
      · rfl
      · rfl
    · cases r2 : right (112 :: (c ++ d))
      · rfl
      · exact pairs_j0 a b c d ha hb hc hd k r1
end Go.Proofs.Ytfkkmagiobfeiaa.Pure
