/- The tree of leaves in plain words, and that tree.grow comes to it. -/
import Derived.Test.YtbbcklpenafefaaXTreeW
namespace Go.Proofs.Ytbbcklpenafefaa.P
open Go.RowKit Go.Proofs.YtbbcklpenafefaaW.PrintWords Go.Proofs.YtbbcklpenafefaaW.PrintLast Go.Proofs.YtbbcklpenafefaaW.PrintMore
set_option linter.unusedVariables false
set_option linter.unusedSimpArgs false
/-- The hash of two trees. -/
def overL (a b : List UInt8) : List UInt8 × Int := if (ofL [112] [a, b]).2 = 0 then ofL [104] [(ofL [112] [a, b]).1] else ([], (ofL [112] [a, b]).2)
/-- The tree of leaves. -/
def treeL (ls : List (List UInt8)) : List UInt8 × Int :=
  if h : 1 < ls.length then
    (if (treeL (ls.take (firstN ls.length))).2 = 0 then
      (if (treeL (ls.drop (firstN ls.length))).2 = 0 then overL (treeL (ls.take (firstN ls.length))).1 (treeL (ls.drop (firstN ls.length))).1 else ([], (treeL (ls.drop (firstN ls.length))).2))
     else ([], (treeL (ls.take (firstN ls.length))).2))
  else ofL [104] [ls.getD 0 []]
termination_by ls.length
decreasing_by
  all_goals have h1 := firstN_pos ls.length
  all_goals have h2 := firstN_lt h
  all_goals simp only [List.length_take, List.length_drop]
  all_goals omega
theorem tree_over.of (a b : List UInt8) : tree_over.f (B a) (B b) = some (pr (overL a b)) := by
  unfold tree_over.f overL
  rw [term_OfPair.of, Option.bind_some]
  by_cases h : (ofL [112] [a, b]).2 = 0
  · rw [if_pos h, if_pos (show (pr (ofL [112] [a, b])).2 = 0 from h), show (pr (ofL [112] [a, b])).1 = B (ofL [112] [a, b]).1 from rfl, term_OfHash.of]
    rfl
  · rw [if_neg h, if_neg (show ¬ (pr (ofL [112] [a, b])).2 = 0 from h)]
    rfl
theorem tree_grow.of : ∀ (k : Nat) (ls : List (List UInt8)), 1 ≤ ls.length → ls.length ≤ 8 → ls.length ≤ k → tree_grow.f k (ls.map B) = some (pr (treeL ls)) := by
  intro k
  induction k with
  | zero => intro ls h1 h2 h3; omega
  | succ k ih =>
    intro ls h1 h2 h3
    rw [tree_grow.f, treeL, List.length_map]
    by_cases h : 1 < ls.length
    · have f1 := firstN_pos ls.length
      have f2 := firstN_lt h
      rw [if_neg (by omega), dif_pos h, tree_first.of ls.length (by omega) h2, Option.bind_some, if_pos (by omega), if_pos (by omega), Int.toNat_natCast, ← List.map_take, ← List.map_drop]
      rw [ih (ls.take (firstN ls.length)) (by rw [List.length_take]; omega) (by rw [List.length_take]; omega) (by rw [List.length_take]; omega), Option.bind_some]
      rw [ih (ls.drop (firstN ls.length)) (by rw [List.length_drop]; omega) (by rw [List.length_drop]; omega) (by rw [List.length_drop]; omega)]
      generalize treeL (ls.take (firstN ls.length)) = a
      generalize treeL (ls.drop (firstN ls.length)) = b
      by_cases ha : a.2 = 0
      · rw [if_pos ha, if_pos (show (pr a).2 = 0 from ha), Option.bind_some]
        by_cases hb : b.2 = 0
        · rw [if_pos hb, if_pos (show (pr b).2 = 0 from hb), show (pr a).1 = B a.1 from rfl, show (pr b).1 = B b.1 from rfl, tree_over.of]
          rfl
        · rw [if_neg hb, if_neg (show ¬ (pr b).2 = 0 from hb)]
          rfl
      · rw [if_neg ha, if_neg (show ¬ (pr a).2 = 0 from ha)]
        rfl
    · obtain ⟨x, rfl⟩ : ∃ x, ls = [x] := List.length_eq_one_iff.mp (by omega)
      rw [if_pos (by simp), dif_neg h, if_pos (by simp)]
      rw [show rdOf ByteArray.empty ([x].map B) 0 = B x from rfl, term_OfHash.of]
      rfl
/-- The forks of eight leaves at most: three at most. -/
theorem forks_len8 (at_ low high : Nat) (h : high - low ≤ 8) : (forks at_ low high).length ≤ 3 := by
  have l1 : ∀ a b, b - a ≤ 1 → (forks at_ a b).length = 0 := by
    intro a b hab
    rw [forks, dif_neg (by omega)]; rfl
  have l2 : ∀ a b, b - a ≤ 2 → (forks at_ a b).length ≤ 1 := by
    intro a b hab
    rw [forks]
    split
    · rename_i h1
      have e : firstN (b - a) = 1 := by unfold firstN; rw [if_pos hab]
      rw [e]
      split
      · rw [List.length_cons, l1 _ _ (by omega)]; omega
      · rw [List.length_cons, l1 _ _ (by omega)]; omega
    · simp
  have l4 : ∀ a b, b - a ≤ 4 → (forks at_ a b).length ≤ 2 := by
    intro a b hab
    rw [forks]
    split
    · rename_i h1
      have e1 : firstN (b - a) ≤ 2 := by unfold firstN; split; omega; (first | omega | (split <;> omega))
      have e2 : b - a - firstN (b - a) ≤ 2 := by unfold firstN; split; omega; (first | omega | (split <;> omega))
      split
      · rw [List.length_cons]; have := l2 (a + firstN (b - a)) b (by omega); omega
      · rw [List.length_cons]; have := l2 a (a + firstN (b - a)) (by omega); omega
    · simp
  rw [forks]
  split
  · rename_i h1
    have e1 : firstN (high - low) ≤ 4 := by unfold firstN; split; omega; split <;> omega
    have e2 : high - low - firstN (high - low) ≤ 4 := by unfold firstN; split; omega; split <;> omega
    split
    · rw [List.length_cons]; have := l4 (low + firstN (high - low)) high (by omega); omega
    · rw [List.length_cons]; have := l4 low (low + firstN (high - low)) (by omega); omega
  · simp
theorem forks_ok (at_ : Nat) : ∀ (m low high : Nat), high - low ≤ m → low ≤ high → ∀ x ∈ forks at_ low high, (low : Int) ≤ x.f0 ∧ x.f0 < x.f1 ∧ x.f1 ≤ (high : Int) := by
  intro m
  induction m with
  | zero => intro low high h1 h2 x hx; rw [forks, dif_neg (by omega)] at hx; simp at hx
  | succ m ih =>
    intro low high h1 h2 x hx
    rw [forks] at hx
    split at hx
    · rename_i h
      have f1 := firstN_pos (high - low)
      have f2 := firstN_lt h
      split at hx
      · rcases List.mem_cons.mp hx with rfl | hx
        · exact ⟨by simp, by simp; omega, by simp; omega⟩
        · obtain ⟨a, b, c⟩ := ih (low + firstN (high - low)) high (by omega) (by omega) x hx
          exact ⟨by omega, b, c⟩
      · rcases List.mem_cons.mp hx with rfl | hx
        · exact ⟨by simp; omega, by simp; omega, by simp⟩
        · obtain ⟨a, b, c⟩ := ih low (low + firstN (high - low)) (by omega) (by omega) x hx
          exact ⟨a, b, by omega⟩
    · simp at hx
end Go.Proofs.Ytbbcklpenafefaa.P
