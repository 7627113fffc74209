/- TreeTells: a file's leaf, the tree of any leaves, the proof of one, and whether anything is proved, or what is wrong, are as the chapter says. -/
import Derived.Test.YtbbcklpenafefaaERef10
import Derived.Test.YtbbcklpenafefaaGLTreeTells
namespace Go.Proofs.Ytbbcklpenafefaa.Pure
set_option linter.unusedVariables false
set_option linter.unusedSimpArgs false
open Go.RowKit Go.Proofs.Ytbbcklpenafefaa.P Go.Proofs.YtbbcklpenafefaaW.PrintWords Go.Proofs.YtbbcklpenafefaaW.PrintLast Go.Proofs.YtbbcklpenafefaaW.PrintMore
theorem tells_same_loop (ls : List (List UInt8)) (h8 : ls.length ≤ 8) : ∀ (m i : Nat), i + m = ls.length → ∀ k, m < k → letterlocklaw10_same.l0 k (ls.map B) (ls.map B) (i : Int) = some true := by
  intro m
  induction m with
  | zero =>
    intro i hi k hk
    obtain ⟨k, rfl⟩ : ∃ m, k = m + 1 := ⟨k - 1, by omega⟩
    rw [letterlocklaw10_same.l0, if_neg (by rw [List.length_map]; omega)]
  | succ m ih =>
    intro i hi k hk
    obtain ⟨k, rfl⟩ : ∃ m, k = m + 1 := ⟨k - 1, by omega⟩
    rw [letterlocklaw10_same.l0, if_pos (by rw [List.length_map]; omega), if_pos (by omega), if_pos (by rw [List.length_map]; omega), if_pos rfl, w64 _ (by omega) (by omega), show (i : Int) + 1 = ((i + 1 : Nat) : Int) from by omega]
    exact ih (i + 1) (by omega) k (by omega)
theorem tells_same (ls : List (List UInt8)) (h8 : ls.length ≤ 8) (k : Nat) (hk : 9 ≤ k) : letterlocklaw10_same.f k (ls.map B) (ls.map B) = some true := by
  unfold letterlocklaw10_same.f
  rw [if_pos rfl]
  exact tells_same_loop ls h8 ls.length 0 (by omega) k (by omega)
def tot : List (List UInt8) → Nat
  | [] => 0
  | x :: r => x.length + tot r
theorem tot_append : ∀ a b : List (List UInt8), tot (a ++ b) = tot a + tot b
  | [], b => by simp [tot]
  | x :: r, b => by rw [List.cons_append, tot, tot, tot_append r b]; omega
theorem tot_mem : ∀ (l : List (List UInt8)) (x : List UInt8), x ∈ l → x.length ≤ tot l
  | [], x, h => by simp at h
  | y :: r, x, h => by
    rw [tot]
    rcases List.mem_cons.mp h with rfl | h
    · omega
    · have := tot_mem r x h; omega
theorem light_many (ls : List (List UInt8)) (h : 20 < ls.length) (hl : ls.length * 16 ≤ 140737488351232) : ∀ (m i : Nat) (s : Int), i + m = ls.length → Ev (fun k => letterlocklaw10_light.l0 k (ls.map B) s (i : Int)) false := by
  intro m
  induction m with
  | zero =>
    intro i s hi
    refine ⟨1, fun k hk => ?_⟩
    obtain ⟨k, rfl⟩ : ∃ m, k = m + 1 := ⟨k - 1, by omega⟩
    show letterlocklaw10_light.l0 (k + 1) _ _ _ = _
    rw [letterlocklaw10_light.l0, if_neg (by rw [List.length_map]; omega), if_neg (by rw [List.length_map]; omega)]
  | succ m ih =>
    intro i s hi
    obtain ⟨K, e⟩ := ih (i + 1) (wrap64 (s + ((rdOf ByteArray.empty (ls.map B) (i : Int)).size : Int))) (by omega)
    refine ⟨K + 1, fun k hk => ?_⟩
    obtain ⟨k, rfl⟩ : ∃ m, k = m + 1 := ⟨k - 1, by omega⟩
    have hw : wrap64 ((i : Int) + 1) = ((i + 1 : Nat) : Int) := by rw [w64 _ (by omega) (by omega)]; omega
    show letterlocklaw10_light.l0 (k + 1) _ _ _ = _
    rw [letterlocklaw10_light.l0, if_pos (by rw [List.length_map]; omega), if_pos (by omega), hw]
    exact e k (by omega)
theorem light_few (ls : List (List UInt8)) (h : ls.length ≤ 20) (hx : ∀ x ∈ ls, x.length ≤ 140737488351232) : ∀ (m i s : Nat), i + m = ls.length → s = tot (ls.take i) → s ≤ i * 140737488351232 → Ev (fun k => letterlocklaw10_light.l0 k (ls.map B) (s : Int) (i : Int)) (decide ((tot ls : Int) ≤ 6000)) := by
  intro m
  induction m with
  | zero =>
    intro i s hi hs hb
    rw [show i = ls.length from by omega, List.take_length] at hs
    refine ⟨1, fun k hk => ?_⟩
    obtain ⟨k, rfl⟩ : ∃ m, k = m + 1 := ⟨k - 1, by omega⟩
    show letterlocklaw10_light.l0 (k + 1) _ _ _ = _
    rw [letterlocklaw10_light.l0, if_neg (by rw [List.length_map]; omega), if_pos (by rw [List.length_map]; omega), hs]
  | succ m ih =>
    intro i s hi hs hb
    have hil : i < ls.length := by omega
    have hxi := hx _ (List.getElem_mem hil)
    have hts : tot (ls.take (i + 1)) = tot (ls.take i) + ls[i].length := by rw [List.take_succ_eq_append_getElem hil, tot_append]; simp [tot]
    obtain ⟨K, e⟩ := ih (i + 1) (s + ls[i].length) (by omega) (by rw [hts, hs]) (by omega)
    refine ⟨K + 1, fun k hk => ?_⟩
    obtain ⟨k, rfl⟩ : ∃ m, k = m + 1 := ⟨k - 1, by omega⟩
    have hw : wrap64 ((i : Int) + 1) = ((i + 1 : Nat) : Int) := by rw [w64 _ (by omega) (by omega)]; omega
    have hw2 : wrap64 ((s : Int) + ((B ls[i]).size : Int)) = ((s + ls[i].length : Nat) : Int) := by rw [size_B, w64 _ (by omega) (by omega)]; omega
    show letterlocklaw10_light.l0 (k + 1) _ _ _ = _
    rw [letterlocklaw10_light.l0, if_pos (by rw [List.length_map]; omega), if_pos (by omega), rdOf_map ls i hil, hw2, hw]
    exact e k (by omega)
theorem letterlocklaw10_light.ev (ls : List (List UInt8)) (hl : ls.length * 16 ≤ 140737488351232) (hx : ∀ x ∈ ls, x.length ≤ 140737488351232) : ∃ b, Ev (fun k => letterlocklaw10_light.f k (ls.map B)) b ∧ (b = true → ls.length ≤ 20 ∧ ∀ x ∈ ls, x.length ≤ 6000) := by
  by_cases h : ls.length ≤ 20
  · refine ⟨_, light_few ls h hx ls.length 0 0 (by omega) rfl (by omega), fun hb => ⟨h, fun x hm => ?_⟩⟩
    have h1 := of_decide_eq_true hb
    have h2 := tot_mem ls x hm
    omega
  · exact ⟨false, light_many ls (by omega) hl ls.length 0 0 (by omega), fun h => absurd h (by decide)⟩
theorem rows_of (l : List ByteArray) : ∃ ls : List (List UInt8), l = ls.map B ∧ ∀ x ∈ ls, B x ∈ l := by
  refine ⟨l.map S, ?_, ?_⟩
  · rw [List.map_map, show (B ∘ S) = id from by funext z; exact B_S z, List.map_id]
  · intro x hx
    obtain ⟨y, hy, rfl⟩ := List.mem_map.mp hx
    rw [B_S]
    exact hy
theorem TreeTells : letterlocklaw10_TreeTells.Pure := by
  intro a0 a1 l2 a3 a4 a5 a6 l7 h0 w1 h2 x2 w3 h4 w5 h6 h7 x7
  obtain ⟨s, rfl, hs⟩ := ofB a0
  obtain ⟨root, rfl, hroot⟩ := ofB a4
  obtain ⟨t, rfl, ht⟩ := ofB a6
  obtain ⟨n, rfl, hn⟩ := wf64 w1
  obtain ⟨ls, rfl, hls⟩ := rows_of l2
  obtain ⟨ps, rfl, hps⟩ := rows_of l7
  rw [List.length_map] at h2 h7
  obtain ⟨K, e⟩ := letterlocklaw10_shown.ev
  obtain ⟨b1, ⟨K1, e1⟩, hb1⟩ := letterlocklaw10_light.ev ls h2 (fun x hm => by have := x2 _ (hls x hm); rw [size_B] at this; exact this)
  obtain ⟨b2, ⟨K2, e2⟩, hb2⟩ := letterlocklaw10_light.ev ps h7 (fun x hm => by have := x7 _ (hps x hm); rw [size_B] at this; exact this)
  rw [size_B] at h0 h4 h6
  have yes : ∀ (k : Nat), letterlocklaw10_TreeTells.j0 (k + 1) (B s) (n : Int) (ls.map B) a3 (B root) a5 (B t) (ps.map B) true true = some true := by
    intro k
    rw [letterlocklaw10_TreeTells.j0, if_pos rfl]
  have hw : wrap64 (wrap64 (((B s).size : Int) + ((B root).size : Int)) + ((B t).size : Int)) = ((s.length + root.length + t.length : Nat) : Int) := by
    rw [size_B, size_B, size_B, w64 ((s.length : Int) + (root.length : Int)) (by omega) (by omega), w64 _ (by omega) (by omega)]
    omega
  by_cases hgo : b1 = true ∧ b2 = true ∧ s.length + root.length + t.length ≤ 9000
  · obtain ⟨rfl, rfl, hsz⟩ := hgo
    obtain ⟨l1, l2⟩ := hb1 rfl
    obtain ⟨p1, p2⟩ := hb2 rfl
    have hx : ∀ x ∈ ls, x.length ≤ 100000000 := fun x hm => by have := l2 x hm; omega
    have hy : ∀ x ∈ ps, x.length ≤ 100000000 := fun x hm => by have := p2 x hm; omega
    obtain ⟨K3, e3⟩ := tree_Leaf.ev s (by omega) n hn
    obtain ⟨K4, e4⟩ := letterlockref10_Leaf.ev s (by omega) n hn
    obtain ⟨K5, e5⟩ := letterlockref10_Root.ev ls (by omega) hx
    obtain ⟨K6, e6⟩ := letterlockref10_Proof.ev ls a3 (by omega) hx
    obtain ⟨K7, e7⟩ := letterlockref10_Verify.ev root t a5 a3 ps (by omega) (by omega) (by omega) hy
    refine ⟨K + K1 + K2 + K3 + K4 + K5 + K6 + K7 + 20, ?_⟩
    generalize hk : K + K1 + K2 + K3 + K4 + K5 + K6 + K7 = k
    have g : letterlocklaw10_shown.f (k + 20) = _ := e _ (by omega)
    have g1 : letterlocklaw10_light.f (k + 20) (ls.map B) = _ := e1 _ (by omega)
    have g2 : letterlocklaw10_light.f (k + 20) (ps.map B) = _ := e2 _ (by omega)
    have g3 : tree_Leaf.f (k + 19) (B s) (n : Int) = _ := e3 _ (by omega)
    have g4 : letterlockref10_Leaf.f (k + 19) (B s) (n : Int) = _ := e4 _ (by omega)
    have g5 : letterlockref10_Root.f (k + 19) (ls.map B) = _ := e5 _ (by omega)
    have g6 : letterlockref10_Proof.f (k + 19) (ls.map B) a3 = _ := e6 _ (by omega)
    have g7 : letterlockref10_Verify.f (k + 19) (B root) a5 a3 (B t) (ps.map B) = _ := e7 _ (by omega)
    have g8 : tree_Verify.f (k + 19) (B root) a5 a3 (B t) (ps.map B) = some (verifyT root a5 a3 t ps) := by
      rw [tree_Verify.f, S_B, S_B, List.map_map, show (S ∘ B) = id from by funext z; exact S_B z, List.map_id]
    have hpl : (proofE ls a3).1.length ≤ 8 := by
      unfold proofE
      split
      · rename_i hr
        obtain ⟨-, r8⟩ := rootL_ok hr
        split
        · rw [proofL_g, List.length_reverse, List.length_map]
          have := forks_len8 a3.toNat 0 ls.length (by omega)
          omega
        · simp
      · simp
    unfold letterlocklaw10_TreeTells.f
    rw [g, Option.bind_some, g1, Option.bind_some, g2, Option.bind_some, if_pos rfl, if_pos rfl, if_pos rfl, hw, decide_eq_false (by omega), letterlocklaw10_TreeTells.j0, if_neg (by decide), g3, Option.bind_some, g4, Option.bind_some, tree_Root.of (k + 19) (by omega), Option.bind_some, g5, Option.bind_some, tree_Proof.of (k + 19) (by omega), Option.bind_some, g6, Option.bind_some, if_pos rfl, if_pos rfl, if_pos rfl, if_pos rfl, tells_same _ hpl (k + 19) (by omega), Option.bind_some, if_pos rfl, if_pos rfl, g8, Option.bind_some, g7, Option.bind_some, beq_self_eq_true]
  · refine ⟨K + K1 + K2 + 20, ?_⟩
    generalize hk : K + K1 + K2 = k
    have g : letterlocklaw10_shown.f (k + 20) = _ := e _ (by omega)
    have g1 : letterlocklaw10_light.f (k + 20) (ls.map B) = _ := e1 _ (by omega)
    have g2 : letterlocklaw10_light.f (k + 20) (ps.map B) = _ := e2 _ (by omega)
    unfold letterlocklaw10_TreeTells.f
    rw [g, Option.bind_some, g1, Option.bind_some, g2, Option.bind_some, if_pos rfl, hw]
    cases b1
    · rw [if_neg (by decide)]; exact yes _
    · cases b2
      · rw [if_pos rfl, if_neg (by decide)]; exact yes _
      · rw [if_pos rfl, if_pos rfl, decide_eq_true (by
          have : ¬ (s.length + root.length + t.length ≤ 9000) := fun h => hgo ⟨rfl, rfl, h⟩
          omega)]
        exact yes _
end Go.Proofs.Ytbbcklpenafefaa.Pure
