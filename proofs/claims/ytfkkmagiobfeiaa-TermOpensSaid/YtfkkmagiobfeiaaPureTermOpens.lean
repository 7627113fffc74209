/- TermOpens: what was sealed, boxed and signed is opened, unboxed and verified with the right key, and with no other one. -/
import Derived.Test.YtfkkmagiobfeiaaELaw3
import Derived.Test.YtfkkmagiobfeiaaGLTermOpens
namespace Go.Proofs.Ytfkkmagiobfeiaa.Pure
set_option linter.unusedVariables false
set_option linter.unusedSimpArgs false
open Go.RowKit Go.Proofs.Ytfkkmagiobfeiaa.P Go.Proofs.YtfkkmagiobfeiaaW.PrintWords Go.Proofs.YtfkkmagiobfeiaaW.PrintLast Go.Proofs.YtfkkmagiobfeiaaW.PrintMore
namespace Opens
theorem right_tlen {a : List UInt8} (h : right a = true) : tlen 40 a = a.length ∧ tlen 40 a ≠ 0 := by
  obtain ⟨h1, -, h3⟩ := (right_iff _).mp h
  exact ⟨h3, by rw [h3]; exact Nat.ne_of_gt (List.length_pos_iff.mpr h1)⟩
theorem ofL2 {k : UInt8} {a b : List UInt8} (ha : right a = true) (hb : right b = true) : ofL [k] [a, b] = if right (k :: (a ++ b)) then (k :: (a ++ b), 0) else ([], 10) := by
  unfold ofL
  simp [ha, hb]
theorem ofL1 {k : UInt8} {a : List UInt8} (ha : right a = true) : ofL [k] [a] = if right (k :: a) then (k :: a, 0) else ([], 10) := by
  unfold ofL
  simp [ha]
theorem parts_two {k : UInt8} {a b : List UInt8} (hk : k = 115 ∨ k = 98) (ha : right a = true) : partsL (k :: (a ++ b)) = [a, b] := by
  obtain ⟨a1, a2⟩ := right_tlen ha
  have e1 := tlen_append 40 a b a2
  rw [a1] at e1
  unfold partsL
  rw [if_neg (by rcases hk with rfl | rfl <;> simp), if_pos (by rcases hk with rfl | rfl <;> simp), List.tail_cons, e1, List.take_left, List.drop_left]
theorem under_two {k : UInt8} {a b f : List UInt8} (hk : k = 115 ∨ k = 98) (ha : right a = true) : underL k f (k :: (a ++ b)) = if a = f then (b, 0) else ([], 6) := by
  unfold underL
  rw [if_pos (show (k :: (a ++ b)).getD 0 0 = k from rfl), parts_two hk ha]
  rfl
theorem eqb {o key : List UInt8} : (o == key) = decide (key = o) := by
  by_cases h : key = o
  · subst h; simp
  · rw [beq_eq_false_iff_ne.mpr (fun e => h e.symm), decide_eq_false h]
theorem open_j3 (key o m : List UInt8) (hk : right key = true) (ho : right o = true) (hm : right m = true) (hu : right (117 :: key) = true) (hs : right (103 :: (key ++ m)) = true) (k : Nat) :
    letterlocklaw3_TermOpens.j3 (k + 1) (B key) (B o) (B m) (B (117 :: key)) (B (103 :: (key ++ m))) false = some true := by
  have v1 : verifyL (117 :: key) m (103 :: (key ++ m)) = 0 := by rw [verifyL, hu, hm, hs, if_pos (show (true && true && true) = true from rfl), if_pos ⟨rfl, rfl⟩]
  have v2 : ((verifyL (117 :: key) o (103 :: (key ++ m)) == 0) == (o == m)) = true := by
    rw [verifyL, hu, ho, hs, if_pos (show (true && true && true) = true from rfl)]
    by_cases h : o = m
    · subst h
      rw [if_pos ⟨rfl, rfl⟩]; simp
    · rw [if_neg (by rintro ⟨-, e⟩; exact h (List.append_cancel_left (List.cons.inj e).2).symm), beq_eq_false_iff_ne.mpr h]; rfl
  rw [letterlocklaw3_TermOpens.j3, if_neg (by decide), term_OfPublic.of, Option.bind_some, ofL1 ho]
  rw [show term_Verify.f (pr (if right (117 :: o) then (117 :: o, 0) else ([], 10))).1 (B m) (B (103 :: (key ++ m))) = some (verifyL (if right (117 :: o) then (117 :: o, (0 : Int)) else ([], 10)).1 m (103 :: (key ++ m))) from rfl, Option.bind_some]
  rw [show term_Verify.f (B (117 :: key)) (B m) (B (103 :: (key ++ m))) = some (verifyL (117 :: key) m (103 :: (key ++ m))) from rfl, v1, Option.bind_some, if_pos rfl]
  simp only [show term_Verify.f (B (117 :: key)) (B o) (B (103 :: (key ++ m))) = some (verifyL (117 :: key) o (103 :: (key ++ m))) from rfl, Option.bind_some, toList_B, v2]
  cases hv : right (117 :: o)
  · rw [if_neg (show ¬ ((pr (if false = true then (117 :: o, (0 : Int)) else ([], 10))).2 = 0) from by simp [pr])]
  · rw [if_pos (show (pr (if true = true then (117 :: o, (0 : Int)) else ([], 10))).2 = 0 from rfl), show (if true = true then (117 :: o, (0 : Int)) else ([], 10)).1 = 117 :: o from rfl]
    have hv3 : verifyL (117 :: o) m (103 :: (key ++ m)) = if o = key then 0 else 7 := by
      rw [verifyL, hv, hm, hs, if_pos (show (true && true && true) = true from rfl)]
      by_cases h : o = key
      · subst h; rw [if_pos ⟨rfl, rfl⟩, if_pos rfl]
      · rw [if_neg h, if_neg (by rintro ⟨-, e⟩; exact h (List.append_cancel_right (List.cons.inj e).2).symm)]
    rw [hv3]
    by_cases h : o = key
    · subst h
      simp
    · rw [if_neg h, beq_eq_false_iff_ne.mpr h]
      simp
theorem open_j2 (key o m : List UInt8) (hk : right key = true) (ho : right o = true) (hm : right m = true) (hu : right (117 :: key) = true) (hb : right (98 :: (117 :: key ++ m)) = true) (hs : right (103 :: (key ++ m)) = true) (k : Nat) :
    letterlocklaw3_TermOpens.j2 (k + 2) (B key) (B o) (B m) 0 (B (117 :: key)) 0 (B (98 :: (117 :: key ++ m))) (B (103 :: (key ++ m))) false = some true := by
  have j3 := open_j3 key o m hk ho hm hu hs k
  have u1 : unboxL key (98 :: (117 :: key ++ m)) = (m, 0) := by rw [unboxL, hk, hb, Bool.and_self, if_pos rfl, under_two (Or.inr rfl) hu, if_pos rfl]
  have u2 : unboxL o (98 :: (117 :: key ++ m)) = if o = key then (m, 0) else ([], 6) := by
    rw [unboxL, ho, hb, Bool.and_self, if_pos rfl, under_two (Or.inr rfl) hu]
    by_cases h : o = key
    · subst h; rw [if_pos rfl, if_pos rfl]
    · rw [if_neg h, if_neg (fun e => h (List.cons.inj e).2.symm)]
  rw [letterlocklaw3_TermOpens.j2, if_neg (by decide)]
  rw [show term_Unbox.f (B key) (B (98 :: (117 :: key ++ m))) = some (pr (unboxL key (98 :: (117 :: key ++ m)))) from rfl, u1, Option.bind_some]
  rw [show term_Unbox.f (B o) (B (98 :: (117 :: key ++ m))) = some (pr (unboxL o (98 :: (117 :: key ++ m)))) from rfl, u2, Option.bind_some]
  unfold pr
  rw [if_pos rfl, if_pos rfl, toList_B, toList_B]
  by_cases h : o = key
  · rw [if_pos h, if_neg (by rw [h]; simp), if_pos rfl]
    exact j3
  · rw [if_neg h, if_neg (by rw [beq_eq_false_iff_ne.mpr h]; simp), if_neg (by decide), if_pos rfl, toList_B, bne_self_eq_false]
    exact j3
theorem open_j1 (key o m : List UInt8) (hk : right key = true) (ho : right o = true) (hm : right m = true) (hu : right (117 :: key) = true) (k : Nat) :
    letterlocklaw3_TermOpens.j1 (k + 3) (B key) (B o) (B m) (B (117 :: key)) false = some true := by
  have hbx : boxL (117 :: key) m = if right (98 :: (117 :: key ++ m)) then (98 :: (117 :: key ++ m), 0) else ([], 10) := by
    rw [boxL, hu, if_pos (show (true && (117 :: key).getD 0 0 == 117) = true from rfl), ofL2 hu hm]
  rw [letterlocklaw3_TermOpens.j1, if_neg (by decide), term_Box.of, Option.bind_some, term_Sign.of, Option.bind_some, hbx, ofL2 hk hm]
  cases h1 : right (98 :: (117 :: key ++ m))
  · cases h2 : right (103 :: (key ++ m))
    · rfl
    · rfl
  · cases h2 : right (103 :: (key ++ m))
    · rfl
    · exact open_j2 key o m hk ho hm hu h1 h2 k
theorem open_j0 (key o m : List UInt8) (hk : right key = true) (ho : right o = true) (hm : right m = true) (hc : right (115 :: (key ++ m)) = true) (hu : right (117 :: key) = true) (k : Nat) :
    letterlocklaw3_TermOpens.j0 (k + 4) (B key) (B o) (B m) (B (115 :: (key ++ m))) 0 (B (117 :: key)) false = some true := by
  have j1 := open_j1 key o m hk ho hm hu k
  have u1 : openL key (115 :: (key ++ m)) = (m, 0) := by rw [openL, hk, hc, Bool.and_self, if_pos rfl, under_two (Or.inl rfl) hk, if_pos rfl]
  have u2 : openL o (115 :: (key ++ m)) = if o = key then (m, 0) else ([], 6) := by
    rw [openL, ho, hc, Bool.and_self, if_pos rfl, under_two (Or.inl rfl) hk]
    by_cases h : o = key
    · subst h; simp
    · rw [if_neg h, if_neg (fun e => h e.symm)]
  rw [letterlocklaw3_TermOpens.j0, if_neg (by decide)]
  rw [show term_Open.f (B key) (B (115 :: (key ++ m))) = some (pr (openL key (115 :: (key ++ m)))) from rfl, u1, Option.bind_some]
  rw [show term_Open.f (B o) (B (115 :: (key ++ m))) = some (pr (openL o (115 :: (key ++ m)))) from rfl, u2, Option.bind_some]
  unfold pr
  rw [if_pos rfl, if_pos rfl, toList_B, toList_B]
  by_cases h : o = key
  · rw [if_pos h, if_neg (by rw [h]; simp), if_pos rfl]
    exact j1
  · rw [if_neg h, if_neg (by rw [beq_eq_false_iff_ne.mpr h]; simp), if_neg (by decide), if_pos rfl, toList_B, bne_self_eq_false]
    exact j1
end Opens
open Opens
theorem TermOpens : letterlocklaw3_TermOpens.Pure := by
  intro l0 l1 l2 hl0 hl0' w0 hl1 hl1' w1 hl2 hl2' w2
  obtain ⟨K, e⟩ := letterlocklaw3_shown.ev
  obtain ⟨key, hk, K0, e0⟩ := letterlocklaw3_grown.ev l0 w0
  obtain ⟨o, ho, K1, e1⟩ := letterlocklaw3_grown.ev l1 w1
  obtain ⟨m, hm, K2, e2⟩ := letterlocklaw3_grown.ev l2 w2
  refine ⟨K + K0 + K1 + K2 + 4, ?_⟩
  generalize hkk : K + K0 + K1 + K2 = k
  have g : letterlocklaw3_shown.f (k + 4) = _ := e _ (by omega)
  have g0 : letterlocklaw3_grown.f (k + 4) l0 = _ := e0 _ (by omega)
  have g1 : letterlocklaw3_grown.f (k + 4) l1 = _ := e1 _ (by omega)
  have g2 : letterlocklaw3_grown.f (k + 4) l2 = _ := e2 _ (by omega)
  unfold letterlocklaw3_TermOpens.f
  rw [g, Option.bind_some, if_pos rfl, g0, Option.bind_some, g1, Option.bind_some, g2, Option.bind_some, term_Seal.of, Option.bind_some, term_OfPublic.of, Option.bind_some, ofL2 hk hm, ofL1 hk]
  cases h1 : right (115 :: (key ++ m))
  · rfl
  · cases h2 : right (117 :: key)
    · rfl
    · exact open_j0 key o m hk ho hm h1 h2 k
end Go.Proofs.Ytfkkmagiobfeiaa.Pure
