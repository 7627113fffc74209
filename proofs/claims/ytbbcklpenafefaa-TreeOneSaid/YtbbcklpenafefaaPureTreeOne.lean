/- TreeOne: rows that are unlike have unlike trees; a row with another leaf at one place, one more, or one less, has another one. -/
import Derived.Test.YtbbcklpenafefaaELaw10
import Derived.Test.YtbbcklpenafefaaGLTreeOne
namespace Go.Proofs.Ytbbcklpenafefaa.Pure
set_option linter.unusedVariables false
set_option linter.unusedSimpArgs false
open Go.RowKit Go.Proofs.Ytbbcklpenafefaa.P Go.Proofs.YtbbcklpenafefaaW.PrintWords Go.Proofs.YtbbcklpenafefaaW.PrintLast Go.Proofs.YtbbcklpenafefaaW.PrintMore
theorem one_j2 (k : Nat) (hk : 8 ≤ k) (ls : List (List UInt8)) (c : List (List UInt8)) (hg : GoodAll ls) (hc : GoodAll c) (hl : c.length = ls.length) (h1 : 1 ≤ ls.length) (h8 : ls.length ≤ 8) :
    letterlocklaw10_TreeOne.j2 (k + 1) (B (treeL ls).1) (c.map B) (B (treeL c).1) false = some true := by
  have hw : wrap64 (((c.map B).length : Int) - 1) = ((c.length - 1 : Nat) : Int) := by rw [List.length_map, w64 _ (by omega) (by omega)]; omega
  rw [letterlocklaw10_TreeOne.j2, if_neg (by decide), hw, if_pos (by omega), List.length_map, if_pos (by omega), Int.toNat_natCast, ← List.map_take]
  by_cases hn : c.length = 1
  · rw [tree_Root.none k _ (Or.inl (by rw [List.length_map, List.length_take]; omega)), Option.bind_some, if_pos (by omega), if_pos rfl, show ((⟨#[]⟩ : ByteArray), (1 : Int)).1 = B [] from rfl, toList_B]
    rfl
  · have r := tree_Root.good k hk (c.take (c.length - 1)) (hc.take _) (by rw [List.length_take]; omega) (by rw [List.length_take]; omega)
    have n1 : ¬ (treeL (c.take (c.length - 1))).1 = (treeL c).1 := by
      intro e
      have := treeL_inj _ _ _ rfl (hc.take _) hc (by rw [List.length_take]; omega) (by rw [List.length_take]; omega) (by omega) (by omega) e
      have h := congrArg List.length this
      rw [List.length_take] at h
      omega
    have n2 : ¬ (treeL (c.take (c.length - 1))).1 = (treeL ls).1 := by
      intro e
      have := treeL_inj _ _ _ rfl (hc.take _) hg (by rw [List.length_take]; omega) (by rw [List.length_take]; omega) (by omega) (by omega) e
      have h := congrArg List.length this
      rw [List.length_take] at h
      omega
    rw [r, Option.bind_some, if_neg (by omega), if_pos rfl]
    simp only [toList_B]
    rw [if_neg n1, bne_iff_ne.mpr n2]
theorem one_j1 (k : Nat) (hk : 8 ≤ k) (a2 : Int) (ls : List (List UInt8)) (hls : ∀ x ∈ ls, IsLeaf x) (h1 : 1 ≤ ls.length) (h8 : ls.length ≤ 8) (p : Nat) (hp : p < ls.length) (ep : letterlocklaw10_pick.f a2 (ls.length : Int) = some (p : Int))
    (eL : tree_Leaf.f (k + 1) (⟨#[111, 116, 104, 101, 114]⟩ : ByteArray) 3 = some (pr (other 3, 0))) :
    letterlocklaw10_TreeOne.j1 (k + 2) a2 (ls.map B) (B (treeL ls).1) false = some true := by
  have hg := leaves_good hls
  have ho := other_good 3 (by decide)
  have hc : GoodAll (ls.set p (other 3)) := by
    intro x hx
    rcases List.mem_or_eq_of_mem_set hx with h | h
    · exact hg x h
    · rw [h]; exact ho
  have hcl : (ls.set p (other 3)).length = ls.length := List.length_set
  have q1 : ([] : List ByteArray).length + (ls.map B).length < 8796093022208 := Nat.lt_of_le_of_lt (show _ ≤ 8 by rw [List.length_nil, List.length_map]; omega) (by omega)
  have q2 : (p : Int) < ((ls.map B).length : Int) := by rw [List.length_map]; omega
  have r := tree_Root.good (k + 1) (by omega) (ls.set p (other 3)) hc (by omega) (by omega)
  rw [List.map_set] at r
  have ne : ¬ (treeL (ls.set p (other 3))).1 = (treeL ls).1 := by
    intro e
    have h := treeL_inj _ _ _ rfl hc hg (by omega) (by omega) (by omega) (by omega) e
    have h2 : (ls.set p (other 3))[p]? = ls[p]? := by rw [h]
    rw [List.getElem?_set_self hp, List.getElem?_eq_getElem hp] at h2
    exact (hls _ (List.getElem_mem hp)).ne 3 (by decide) (Option.some.inj h2).symm
  have hk1 : term_Kind.f (B (treeL (ls.set p (other 3))).1) = some 104 := by
    have hr := treeL_right hc (by omega) (by omega)
    obtain ⟨-, -, -, ⟨s, hs⟩⟩ := treeL_good _ (ls.set p (other 3)) hc rfl (by omega) (by omega)
    show some ((kindL (treeL (ls.set p (other 3))).1).toNat : Int) = some 104
    rw [kindL, hr, if_pos rfl, hs]
    rfl
  have j2 := one_j2 k hk ls (ls.set p (other 3)) hg hc hcl h1 h8
  rw [List.map_set] at j2
  rw [letterlocklaw10_TreeOne.j1, if_neg (by decide), Option.bind_some, if_pos q1, Option.bind_some, List.length_map, ep, Option.bind_some, eL, Option.bind_some, if_pos (by omega), List.nil_append, if_pos q2, Option.bind_some, Int.toNat_natCast, show (pr (other 3, 0)).1 = B (other 3) from rfl, r, Option.bind_some, if_pos rfl]
  simp only [toList_B]
  rw [if_neg ne, hk1, Option.bind_some]
  exact j2
theorem same_loop (ls ms : List (List UInt8)) (hl : ls.length = ms.length) (h8 : ls.length ≤ 8) : ∀ (m i : Nat), i + m = ls.length → ∀ k, m < k → letterlocklaw10_same.l0 k (ls.map B) (ms.map B) (i : Int) = some (decide (ls.drop i = ms.drop i)) := by
  intro m
  induction m with
  | zero =>
    intro i hi k hk
    obtain ⟨k, rfl⟩ : ∃ m, k = m + 1 := ⟨k - 1, by omega⟩
    rw [letterlocklaw10_same.l0, if_neg (by rw [List.length_map]; omega), List.drop_eq_nil_of_le (by omega), List.drop_eq_nil_of_le (by omega)]
    rfl
  | succ m ih =>
    intro i hi k hk
    obtain ⟨k, rfl⟩ : ∃ m, k = m + 1 := ⟨k - 1, by omega⟩
    have a1 : i < ls.length := by omega
    have a2 : i < ms.length := by omega
    have hw : wrap64 ((i : Int) + 1) = ((i + 1 : Nat) : Int) := by rw [w64 _ (by omega) (by omega)]; omega
    have d1 : ls.drop i = ls[i] :: ls.drop (i + 1) := List.drop_eq_getElem_cons a1
    have d2 : ms.drop i = ms[i] :: ms.drop (i + 1) := List.drop_eq_getElem_cons a2
    rw [letterlocklaw10_same.l0, if_pos (by rw [List.length_map]; omega), if_pos (by omega), if_pos (by rw [List.length_map]; omega), rdOf_map ls i a1, rdOf_map ms i a2, toList_B, toList_B, hw, ih (i + 1) (by omega) k (by omega), d1, d2]
    by_cases h : ls[i] = ms[i]
    · rw [if_pos h]
      congr 1
      exact decide_eq_decide.mpr ⟨fun e => by rw [h, e], fun e => (List.cons.inj e).2⟩
    · rw [if_neg h, decide_eq_false (fun e => h (List.cons.inj e).1)]
theorem same_of (ls ms : List (List UInt8)) (h8 : ls.length ≤ 8) (k : Nat) (hk : 9 ≤ k) : letterlocklaw10_same.f k (ls.map B) (ms.map B) = some (decide (ls = ms)) := by
  unfold letterlocklaw10_same.f
  rw [List.length_map, List.length_map]
  by_cases h : ls.length = ms.length
  · rw [if_pos (by omega)]
    exact same_loop ls ms h h8 ls.length 0 (by omega) k (by omega)
  · rw [if_neg (by omega), decide_eq_false (fun e => h (by rw [e]))]
theorem TreeOne : letterlocklaw10_TreeOne.Pure := by
  intro l0 l1 a2 h0 h0' w0 h1 h1' w1 w2
  obtain ⟨K, e⟩ := letterlocklaw10_shown.ev
  obtain ⟨ls, hls, hlen, K1, e1⟩ := letterlocklaw10_row.ev l0 w0
  obtain ⟨ms, hms, hlen2, K2, e2⟩ := letterlocklaw10_row.ev l1 w1
  have hg := leaves_good hls
  have hm := leaves_good hms
  obtain ⟨K3, e3⟩ := tree_Leaf.ev [111, 116, 104, 101, 114] (by decide) 3 (by decide)
  rw [leafOfL_small [111, 116, 104, 101, 114] 3 (by decide) (by decide)] at e3
  refine ⟨K + K1 + K2 + K3 + 20, ?_⟩
  generalize hk : K + K1 + K2 + K3 = k
  have g : letterlocklaw10_shown.f (k + 20) = _ := e _ (by omega)
  have g1 : letterlocklaw10_row.f (k + 20) l0 = _ := e1 _ (by omega)
  have g2 : letterlocklaw10_row.f (k + 20) l1 = _ := e2 _ (by omega)
  have g3 : tree_Leaf.f (k + 17 + 1) (⟨#[111, 116, 104, 101, 114]⟩ : ByteArray) 3 = _ := e3 _ (by omega)
  unfold letterlocklaw10_TreeOne.f
  rw [g, Option.bind_some, g1, Option.bind_some, g2, Option.bind_some, if_pos rfl, List.length_map, List.length_map]
  by_cases hz : ls.length = 0
  · rw [if_pos (by omega), letterlocklaw10_TreeOne.j0, if_pos rfl]
  · rw [if_neg (by omega)]
    by_cases hz2 : ms.length = 0
    · rw [show ((ms.length : Int) == 0) = true from beq_iff_eq.mpr (by omega), letterlocklaw10_TreeOne.j0, if_pos rfl]
    · obtain ⟨b0, b1⟩ := wfi64 w2
      obtain ⟨p, hp, ep⟩ := letterlocklaw10_pick.of a2 b0 b1 ls.length (by omega) (by omega)
      have hb : ((treeL ls).1 == (treeL ms).1) = decide (ls = ms) := by
        by_cases h : ls = ms
        · rw [h]; simp
        · rw [decide_eq_false h]
          exact beq_eq_false_iff_ne.mpr (fun e => h (treeL_inj _ _ _ rfl hg hm (by omega) (by omega) (by omega) (by omega) e))
      rw [show ((ms.length : Int) == 0) = false from beq_eq_false_iff_ne.mpr (by omega), letterlocklaw10_TreeOne.j0, if_neg (by decide), tree_Root.good (k + 19) (by omega) ls hg (by omega) (by omega), Option.bind_some, tree_Root.good (k + 19) (by omega) ms hm (by omega) (by omega), Option.bind_some, if_pos rfl, if_pos rfl, same_of ls ms (by omega) (k + 19) (by omega), Option.bind_some]
      simp only [toList_B, hb, bne_self_eq_false]
      exact one_j1 (k + 17) (by omega) a2 ls hls (by omega) (by omega) p hp ep g3
end Go.Proofs.Ytbbcklpenafefaa.Pure
