/- TreeErrs: no leaves, more than eight, or one that is none, are no argument; a place that is none is. -/
import Derived.Test.YtbbcklpenafefaaELaw10
import Derived.Test.YtbbcklpenafefaaGLTreeErrs
namespace Go.Proofs.Ytbbcklpenafefaa.Pure
set_option linter.unusedVariables false
set_option linter.unusedSimpArgs false
open Go.RowKit Go.Proofs.Ytbbcklpenafefaa.P Go.Proofs.YtbbcklpenafefaaW.PrintWords Go.Proofs.YtbbcklpenafefaaW.PrintLast Go.Proofs.YtbbcklpenafefaaW.PrintMore
theorem errs_j4 (k : Nat) (s : ByteArray) (hs : s.size ≤ 1000) (xs : List ByteArray) (hx : xs.length ≤ 100) (hl : leafL (S s) = false) : letterlocklaw10_TreeErrs.j4 (k + 1) s xs false = some true := by
  have q1 : ([] : List ByteArray).length + xs.length < 8796093022208 := by rw [List.length_nil]; omega
  have q2 : (([] : List ByteArray) ++ xs).length < 8796093022208 := by rw [List.nil_append]; omega
  have q3 : ([s] : List ByteArray).length + xs.length < 8796093022208 := by rw [List.length_singleton]; omega
  have r1 := tree_Root.bad k (([] ++ xs) ++ [s]) s (by simp) hl
  have r2 := tree_Root.bad k ([s] ++ xs) s (by simp) hl
  have p2 : tree_Proof.f k ([s] ++ xs) 0 = some ([], 1) := by
    rw [tree_Proof.f, r2, Option.bind_some, if_neg (by simp)]
  have hv : ∀ a, tree_Verify.f k a 1 0 s [] = some false := by
    intro a
    rw [tree_Verify.f, verifyT, if_pos (Or.inr (Or.inr (Or.inr (Or.inr hl))))]
  rw [letterlocklaw10_TreeErrs.j4, if_neg (by decide), Option.bind_some, if_pos q1, Option.bind_some, if_pos q2, r1, Option.bind_some, Option.bind_some, if_pos q3, p2, Option.bind_some, if_pos rfl, if_pos rfl, if_pos (show ((⟨#[]⟩ : ByteArray), (1 : Int)).1.toList = [] from by rw [show ((⟨#[]⟩ : ByteArray), (1 : Int)).1 = B [] from rfl, toList_B]), if_pos (by simp), if_pos (by omega), hv, Option.bind_some]
  rfl
theorem errs_j3 (k : Nat) (s : ByteArray) (hs : s.size ≤ 1000) (xs : List ByteArray) (hx : xs.length ≤ 100) : letterlocklaw10_TreeErrs.j3 (k + 2) s xs false = some true := by
  have yes : letterlocklaw10_TreeErrs.j4 (k + 1) s xs true = some true := by rw [letterlocklaw10_TreeErrs.j4, if_pos rfl]
  have no := errs_j4 k s hs xs hx
  rw [letterlocklaw10_TreeErrs.j3, if_neg (by decide), show term_Parts.f s = some ((partsE (S s)).1.map B, (partsE (S s)).2) from rfl, Option.bind_some]
  cases hr : right (S s)
  · rw [show partsE (S s) = ([], 1) from by rw [partsE, hr]; rfl, if_neg (by simp)]
    exact no (by rw [leafL, hr]; rfl)
  · rw [show partsE (S s) = (partsL (S s), 0) from by rw [partsE, hr]; rfl, if_pos rfl, show term_Kind.f s = some ((kindL (S s)).toNat : Int) from rfl, Option.bind_some]
    have hk : kindL (S s) = (S s).getD 0 0 := by rw [kindL, hr]; rfl
    by_cases h1 : (S s).getD 0 0 = 112
    · obtain ⟨a, b, hp⟩ := partsL_pair h1
      have hlf : leafL (S s) = (decide (kindL a = 116) && decide (kindL b = 97)) := by rw [leafL, hr, h1, hp]; rfl
      rw [hk, h1, if_pos (by decide), hp, if_pos (by simp), if_pos (by simp)]
      rw [show term_Kind.f (rdOf ByteArray.empty (([a, b] : List (List UInt8)).map B) 0) = some ((kindL a).toNat : Int) from rfl, Option.bind_some]
      by_cases h2 : kindL a = 116
      · rw [h2, if_pos (by decide), if_pos (by simp), show term_Kind.f (rdOf ByteArray.empty (([a, b] : List (List UInt8)).map B) 1) = some ((kindL b).toNat : Int) from rfl, Option.bind_some]
        by_cases h3 : kindL b = 97
        · rw [h3]; exact yes
        · rw [show (((kindL b).toNat : Int) == 97) = false from byte_ne (n := 97) (by decide) h3]
          exact no (by rw [hlf, decide_eq_false h3, Bool.and_false])
      · rw [if_neg (fun e => h2 ((b116 _).mp e))]
        exact no (by rw [hlf, decide_eq_false h2, Bool.false_and])
    · rw [hk, if_neg (fun e => h1 ((b112 _).mp e))]
      exact no (by rw [leafL, decide_eq_false h1, Bool.and_false, Bool.false_and, Bool.false_and])
theorem errs_l0 (l0 : List Int) (w0 : ∀ x ∈ l0, (Lit.int .i64 x).wf = true) (a1 : Int) (s : ByteArray) (hs : s.size ≤ 1000) (a3 : Int) (p : Nat) (hp : p < 4) (ep : letterlocklaw10_pick.f a1 4 = some (p : Int)) :
    ∀ (m i : Nat) (st : List (List UInt8)), i + m = p → GoodAll st → st.length ≤ 8 * i → Ev (fun k => letterlocklaw10_TreeErrs.l0 k l0 a1 s a3 (st.map B) (i : Int)) true := by
  intro m
  induction m with
  | zero =>
    intro i st hi hg hl
    refine ⟨20, fun k hk => ?_⟩
    obtain ⟨k, rfl⟩ : ∃ m, k = m + 20 := ⟨k - 20, by omega⟩
    show letterlocklaw10_TreeErrs.l0 (k + 20) _ _ _ _ _ _ = _
    have j3 := errs_j3 (k + 16) s hs (st.map B) (by rw [List.length_map]; omega)
    rw [letterlocklaw10_TreeErrs.l0, ep, Option.bind_some, if_neg (by omega), List.length_map]
    by_cases hb : st.length = 0 ∨ 8 < st.length
    · have r := tree_Root.none (k + 19) (st.map B) (by rw [List.length_map]; exact hb)
      have q : tree_Proof.f (k + 19) (st.map B) a3 = some ([], 1) := by rw [tree_Proof.f, r, Option.bind_some, if_neg (by simp)]
      rw [r, Option.bind_some, q, Option.bind_some]
      have j2 : letterlocklaw10_TreeErrs.j2 (k + 19) s a3 (st.map B) 1 1 true = some true := by
        rw [letterlocklaw10_TreeErrs.j2, if_neg (by decide), if_pos rfl]
        exact j3
      by_cases h0 : st.length = 0
      · rw [if_pos (by omega)]; exact j2
      · rw [if_neg (by omega), decide_eq_true (by omega)]; exact j2
    · have r := tree_Root.good (k + 19) (by omega) st hg (by omega) (by omega)
      rw [r, Option.bind_some]
      have d8 : decide ((st.length : Int) > 8) = false := decide_eq_false (by omega)
      have d0 : ¬ (st.length : Int) = 0 := by omega
      by_cases hn : a3 < 0
      · have q : tree_Proof.f (k + 19) (st.map B) a3 = some ([], 1) := by rw [tree_Proof.f, r, Option.bind_some, if_pos rfl, if_neg (by omega)]
        rw [q, Option.bind_some, if_neg d0, d8, letterlocklaw10_TreeErrs.j2, if_neg (show ¬ (((B (treeL st).1, (0 : Int)).2 == 1) != false) = true from by simp), if_neg (by decide), if_pos hn]
        exact j3
      · by_cases hg3 : a3 ≥ (st.length : Int)
        · have q : tree_Proof.f (k + 19) (st.map B) a3 = some ([], 1) := by rw [tree_Proof.f, r, Option.bind_some, if_pos rfl, if_neg (by rw [List.length_map]; omega)]
          rw [q, Option.bind_some, if_neg d0, d8, letterlocklaw10_TreeErrs.j2, if_neg (show ¬ (((B (treeL st).1, (0 : Int)).2 == 1) != false) = true from by simp), if_neg (by decide), if_neg hn, List.length_map, decide_eq_true hg3]
          exact j3
        · have q : ∃ y, tree_Proof.f (k + 19) (st.map B) a3 = some (y, 0) := by rw [tree_Proof.f, r, Option.bind_some, if_pos rfl, if_pos (by rw [List.length_map]; omega)]; exact ⟨_, rfl⟩
          obtain ⟨y, q⟩ := q
          rw [q, Option.bind_some, if_neg d0, d8, letterlocklaw10_TreeErrs.j2, if_neg (show ¬ (((B (treeL st).1, (0 : Int)).2 == 1) != false) = true from by simp), if_neg (by decide), if_neg hn, List.length_map, decide_eq_false hg3]
          exact j3
  | succ m ih =>
    intro i st hi hg hl
    obtain ⟨ls, hls, hlen, K1, e1⟩ := letterlocklaw10_row.ev l0 w0
    have hgl := leaves_good hls
    obtain ⟨K, e⟩ := ih (i + 1) (st ++ ls) (by omega) (by
      intro x hx
      rcases List.mem_append.mp hx with h | h
      · exact hg x h
      · exact hgl x h) (by rw [List.length_append]; omega)
    refine ⟨K + K1 + 1, fun k hk => ?_⟩
    obtain ⟨k, rfl⟩ : ∃ m, k = m + 1 := ⟨k - 1, by omega⟩
    have g : letterlocklaw10_TreeErrs.l0 k l0 a1 s a3 ((st ++ ls).map B) ((i + 1 : Nat) : Int) = _ := e k (by omega)
    have g1 : letterlocklaw10_row.f k l0 = _ := e1 k (by omega)
    show letterlocklaw10_TreeErrs.l0 (k + 1) _ _ _ _ _ _ = _
    have hq : (st.map B).length + (ls.map B).length < 8796093022208 := Nat.lt_of_le_of_lt (show _ ≤ 40 by rw [List.length_map, List.length_map]; omega) (by omega)
    have hw : wrap64 ((i : Int) + 1) = ((i + 1 : Nat) : Int) := by rw [w64 _ (by omega) (by omega)]; omega
    rw [letterlocklaw10_TreeErrs.l0, ep, Option.bind_some, if_pos (by omega), g1, Option.bind_some, if_pos hq, hw, ← List.map_append]
    exact g
theorem TreeErrs : letterlocklaw10_TreeErrs.Pure := by
  intro l0 a1 a2 a3 h0 h0' w0 w1 h2 w3
  obtain ⟨K, e⟩ := letterlocklaw10_shown.ev
  obtain ⟨b0, b1⟩ := wfi64 w1
  obtain ⟨p, hp, ep⟩ := letterlocklaw10_pick.of a1 b0 b1 4 (by decide) (by decide)
  have ep : letterlocklaw10_pick.f a1 4 = some (p : Int) := ep
  by_cases hs : a2.size ≤ 1000
  · obtain ⟨K1, e1⟩ := errs_l0 l0 w0 a1 a2 hs a3 p hp ep p 0 [] (by omega) (by intro x hx; simp at hx) (by simp)
    refine ⟨K + K1 + 1, ?_⟩
    have g : letterlocklaw10_shown.f (K + K1 + 1) = _ := e _ (by omega)
    have g1 : letterlocklaw10_TreeErrs.l0 (K + K1) l0 a1 a2 a3 [] 0 = _ := e1 _ (by omega)
    unfold letterlocklaw10_TreeErrs.f
    rw [g, Option.bind_some, if_pos rfl, decide_eq_false (by omega), letterlocklaw10_TreeErrs.j0, if_neg (by decide), g1]
  · refine ⟨K + 1, ?_⟩
    have g : letterlocklaw10_shown.f (K + 1) = _ := e _ (by omega)
    unfold letterlocklaw10_TreeErrs.f
    rw [g, Option.bind_some, if_pos rfl, decide_eq_true (by omega), letterlocklaw10_TreeErrs.j0, if_pos rfl]
end Go.Proofs.Ytbbcklpenafefaa.Pure
