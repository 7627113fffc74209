/- TreeShape: the tree of one leaf is its hash; of more it is the hash of the pair of two trees. -/
import Derived.Test.YtbbcklpenafefaaELaw10
import Derived.Test.YtbbcklpenafefaaGLTreeShape
namespace Go.Proofs.Ytbbcklpenafefaa.Pure
set_option linter.unusedVariables false
set_option linter.unusedSimpArgs false
open Go.RowKit Go.Proofs.Ytbbcklpenafefaa.P Go.Proofs.YtbbcklpenafefaaW.PrintWords Go.Proofs.YtbbcklpenafefaaW.PrintLast Go.Proofs.YtbbcklpenafefaaW.PrintMore
theorem shape_end (k : Nat) (hk : 8 ≤ k) (ls : List (List UInt8)) (hg : GoodAll ls) (h1 : 1 < ls.length) (h8 : ls.length ≤ 8) (hf : ls.length ≤ 2 * firstN ls.length) :
    letterlocklaw10_TreeShape.l0 (k + 1) (ls.map B) (B (treeL ls).1) ((firstN ls.length : Nat) : Int) = some true := by
  have f1 := firstN_pos ls.length
  have f2 := firstN_lt h1
  obtain ⟨p1, p2⟩ := over_parts hg h1 h8
  have r1 := tree_Root.good k hk (ls.take (firstN ls.length)) (hg.take _) (by rw [List.length_take]; omega) (by rw [List.length_take]; omega)
  have r2 := tree_Root.good k hk (ls.drop (firstN ls.length)) (hg.drop _) (by rw [List.length_drop]; omega) (by rw [List.length_drop]; omega)
  have hw : wrap64 (2 * ((firstN ls.length : Nat) : Int)) = ((2 * firstN ls.length : Nat) : Int) := by rw [w64 _ (by omega) (by omega)]; omega
  rw [letterlocklaw10_TreeShape.l0, hw, List.length_map, if_neg (by omega), if_pos (by omega), if_pos (by omega), Int.toNat_natCast, ← List.map_take, ← List.map_drop, r1, Option.bind_some, r2, Option.bind_some, term_OfPair.of, p1, Option.bind_some]
  rw [show (pr (112 :: ((treeL (ls.take (firstN ls.length))).1 ++ (treeL (ls.drop (firstN ls.length))).1), 0)).1 = B (112 :: ((treeL (ls.take (firstN ls.length))).1 ++ (treeL (ls.drop (firstN ls.length))).1)) from rfl, term_OfHash.of, p2, Option.bind_some]
  simp [pr]
theorem TreeShape : letterlocklaw10_TreeShape.Pure := by
  intro l0 h0 h0' w0
  obtain ⟨K, e⟩ := letterlocklaw10_shown.ev
  obtain ⟨ls, hls, hlen, K1, e1⟩ := letterlocklaw10_row.ev l0 w0
  have hg := leaves_good hls
  refine ⟨K + K1 + 16, ?_⟩
  generalize hk : K + K1 = k
  have g : letterlocklaw10_shown.f (k + 16) = _ := e _ (by omega)
  have g1 : letterlocklaw10_row.f (k + 16) l0 = _ := e1 _ (by omega)
  unfold letterlocklaw10_TreeShape.f
  rw [g, Option.bind_some, g1, Option.bind_some, if_pos rfl, List.length_map]
  by_cases hz : ls.length = 0
  · rw [show ((ls.length : Int) == 0) = true from beq_iff_eq.mpr (by omega), letterlocklaw10_TreeShape.j0, if_pos rfl]
  · rw [show ((ls.length : Int) == 0) = false from beq_eq_false_iff_ne.mpr (by omega), letterlocklaw10_TreeShape.j0, if_neg (by decide), tree_Root.good (k + 15) (by omega) ls hg (by omega) (by omega), Option.bind_some, if_pos rfl, List.length_map]
    by_cases h1 : ls.length = 1
    · obtain ⟨x, rfl⟩ := List.length_eq_one_iff.mp h1
      have hx := hg x (by simp)
      rw [if_pos (by simp), if_pos (by simp), show rdOf ByteArray.empty ([x].map B) 0 = B x from rfl, term_OfHash.of, ofL_one hx.1 (by omega) (by have := hx.2.1; omega), Option.bind_some, treeL_one hx]
      simp [pr]
    · rw [if_neg (by omega)]
      have h8 : ls.length ≤ 8 := by omega
      rcases (by omega : ls.length = 2 ∨ (ls.length = 3 ∨ ls.length = 4) ∨ (5 ≤ ls.length)) with h | h | h
      · have hf : firstN ls.length = 1 := by unfold firstN; rw [if_pos (by omega)]
        have := shape_end (k + 14) (by omega) ls hg (by omega) h8 (by omega)
        rw [hf] at this
        exact this
      · have hf : firstN ls.length = 2 := by unfold firstN; rw [if_neg (by omega), if_pos (by omega)]
        have := shape_end (k + 13) (by omega) ls hg (by omega) h8 (by omega)
        rw [hf] at this
        rw [letterlocklaw10_TreeShape.l0, List.length_map, show wrap64 (2 * 1) = 2 from by simp [wrap64], if_pos (by omega)]
        exact this
      · have hf : firstN ls.length = 4 := by unfold firstN; rw [if_neg (by omega), if_neg (by omega)]
        have := shape_end (k + 12) (by omega) ls hg (by omega) h8 (by omega)
        rw [hf] at this
        rw [letterlocklaw10_TreeShape.l0, List.length_map, show wrap64 (2 * 1) = 2 from by simp [wrap64], if_pos (by omega), letterlocklaw10_TreeShape.l0, List.length_map, show wrap64 (2 * 2) = 4 from by simp [wrap64], if_pos (by omega)]
        exact this
end Go.Proofs.Ytbbcklpenafefaa.Pure
