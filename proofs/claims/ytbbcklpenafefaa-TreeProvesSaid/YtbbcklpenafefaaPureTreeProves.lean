/- TreeProves: of each row each leaf is proved at its place; with another proof, at another place, or of another leaf, it is not. -/
import Derived.Test.YtbbcklpenafefaaXProvesH
namespace Go.Proofs.Ytbbcklpenafefaa.P
set_option linter.unusedVariables false
set_option linter.unusedSimpArgs false
open Go.RowKit Go.Proofs.YtbbcklpenafefaaW.PrintWords Go.Proofs.YtbbcklpenafefaaW.PrintLast Go.Proofs.YtbbcklpenafefaaW.PrintMore
/-- What is known of a row, its tree, a leaf's proof, and another leaf. -/
structure Known (rs ps : List ByteArray) (T X : ByteArray) (n k j : Nat) : Prop where
  hn : rs.length = n
  n1 : 1 ≤ n
  n8 : n ≤ 8
  kn : k < n
  jn : j < n
  p3 : ps.length ≤ 3
  p1 : 1 < n → 0 < ps.length
  sz : T.size ≤ 4000
  szr : ∀ x ∈ rs, x.size ≤ 40
  szp : ∀ x ∈ ps, x.size ≤ 4000
  yes : verifyT (S T) (n : Int) (k : Int) (S (rdOf ByteArray.empty rs (k : Int))) (ps.map S) = true
  other : verifyT (S T) (n : Int) (k : Int) (S X) (ps.map S) = false
  leaf : (rdOf ByteArray.empty rs (j : Int)).toList ≠ (rdOf ByteArray.empty rs (k : Int)).toList → verifyT (S T) (n : Int) (k : Int) (S (rdOf ByteArray.empty rs (j : Int))) (ps.map S) = false
  far : verifyT (S T) (n : Int) (n : Int) (S (rdOf ByteArray.empty rs (k : Int))) (ps.map S) = false
  low : verifyT (S T) (n : Int) (-1) (S (rdOf ByteArray.empty rs (k : Int))) (ps.map S) = false
  root : verifyT (S ((⟨#[104]⟩ : ByteArray) ++ T)) (n : Int) (k : Int) (S (rdOf ByteArray.empty rs (k : Int))) (ps.map S) = false
  none : verifyT (S T) (n : Int) (k : Int) (S ((⟨#[104]⟩ : ByteArray) ++ rdOf ByteArray.empty rs (k : Int))) (ps.map S) = false
  two : n = 1 → verifyT (S T) 2 0 (S (rdOf ByteArray.empty rs 0)) [S T] = false
  one : n = 1 → verifyT (S T) 1 0 (S (rdOf ByteArray.empty rs 0)) [S T] = false
  put : ∀ m, m < ps.length → verifyT (S T) (n : Int) (k : Int) (S (rdOf ByteArray.empty rs (k : Int))) ((ps.set m ((⟨#[104]⟩ : ByteArray) ++ rdOf ByteArray.empty ps (m : Int))).map S) = false
  less : 0 < ps.length → verifyT (S T) (n : Int) (k : Int) (S (rdOf ByteArray.empty rs (k : Int))) ((ps.drop 1).map S) = false
  more : verifyT (S T) (n : Int) (k : Int) (S (rdOf ByteArray.empty rs (k : Int))) ((ps ++ [T]).map S) = false
theorem known {ls : List (List UInt8)} (hls : ∀ x ∈ ls, IsLeaf x) (h1 : 1 ≤ ls.length) (h8 : ls.length ≤ 8) (k j o : Nat) (hk : k < ls.length) (hj : j < ls.length) (ho : o < 9) :
    Known (ls.map B) ((proofL ls k).map B) (B (treeL ls).1) (B (other o)) ls.length k j := by
  have hg := leaves_good hls
  have hx := hg _ (List.getElem_mem hk)
  have hpl := proofL_len ls k
  have hf3 := forks_len8 k 0 ls.length (by omega)
  have hp3 : (proofL ls k).length ≤ 3 := by omega
  have rk : rdOf ByteArray.empty (ls.map B) (k : Int) = B ls[k] := rdOf_map ls k hk
  have rj : rdOf ByteArray.empty (ls.map B) (j : Int) = B ls[j] := rdOf_map ls j hj
  have pm : ∀ l : List (List UInt8), (l.map B).map S = l := fun l => by rw [List.map_map, show (S ∘ B) = id from by funext z; exact S_B z, List.map_id]
  have app : ∀ t : List UInt8, (⟨#[104]⟩ : ByteArray) ++ B t = B (104 :: t) := fun t => append_B [104] t
  have no := fun t ht qs hne => verify_no hg h1 h8 k hk t ht qs hne
  have hlenq : ∀ qs : List (List UInt8), qs.length ≠ (proofL ls k).length → verifyT (treeL ls).1 (ls.length : Int) (k : Int) ls[k] qs = false := fun qs hq => verifyT_len _ _ _ _ _ (by omega)
  have hone : ∀ x, ls = [x] → (treeL ls).1 = 104 :: x := fun x e => by subst e; exact treeL_one (hg x (by simp))
  refine ⟨by rw [List.length_map], h1, h8, hk, hj, by rw [List.length_map]; exact hp3, ?_, by rw [size_B]; exact treeL_len ls, ?_, ?_, ?_, ?_, ?_, ?_, ?_, ?_, ?_, ?_, ?_, ?_, ?_, ?_⟩
  · intro h
    rw [List.length_map, hpl, forks, dif_pos (by omega)]
    split <;> simp
  · intro x hx2
    obtain ⟨y, hy, rfl⟩ := List.mem_map.mp hx2
    rw [size_B]
    exact (hg y hy).2.1
  · intro x hx2
    obtain ⟨y, hy, rfl⟩ := List.mem_map.mp hx2
    rw [size_B]
    rw [proofL_g] at hy
    obtain ⟨f, -, rfl⟩ := List.mem_map.mp (List.mem_reverse.mp hy)
    exact treeL_len _
  · rw [rk, pm, S_B, S_B]; exact verify_yes hg h1 h8 k hk
  · rw [pm, S_B, S_B]; exact no _ (other_good o (by omega)) _ (fun h => (hls _ (List.getElem_mem hk)).ne o (by omega) h.1.symm)
  · rw [rk, rj, toList_B, toList_B, pm, S_B, S_B]
    exact fun hne => no _ (hg _ (List.getElem_mem hj)) _ (fun h => hne h.1)
  · exact verify_place _ _ _ _ _ (Or.inr (Int.le_refl _))
  · exact verify_place _ _ _ _ _ (Or.inl (by decide))
  · rw [rk, pm, app, S_B, S_B]; exact verify_root hg h1 h8 k hk _ (cons_ne _)
  · rw [rk, app, S_B]; exact verify_leaf _ _ _ _ _ (by rw [S_B]; exact leaf_hash _)
  · intro h
    obtain ⟨x, rfl⟩ := List.length_eq_one_iff.mp h
    rw [hone x rfl, S_B, show rdOf ByteArray.empty ([x].map B) 0 = B x from rfl, S_B]
    exact verify_two (hg x (by simp))
  · intro h
    obtain ⟨x, rfl⟩ := List.length_eq_one_iff.mp h
    have := verifyT_len (S (B (treeL [x]).1)) (S (rdOf ByteArray.empty ([x].map B) 0)) 1 0 [S (B (treeL [x]).1)] (by rw [forks_one]; simp)
    exact this
  · intro m hm
    rw [List.length_map] at hm
    rw [rk, rdOf_map _ m hm, app, ← List.map_set, pm, S_B, S_B]
    refine no _ hx _ (fun h => ?_)
    have h2 : ((proofL ls k).set m (104 :: (proofL ls k)[m]))[m]? = (proofL ls k)[m]? := by rw [h.2]
    rw [List.getElem?_set_self hm, List.getElem?_eq_getElem hm] at h2
    exact cons_ne _ (Option.some.inj h2)
  · intro h
    rw [List.length_map] at h
    rw [rk, ← List.map_drop, pm, S_B, S_B]
    exact hlenq _ (by rw [List.length_drop]; omega)
  · rw [rk, show ((proofL ls k).map B ++ [B (treeL ls).1]) = ((proofL ls k) ++ [(treeL ls).1]).map B from by rw [List.map_append]; rfl, pm, S_B, S_B]
    exact hlenq _ (by rw [List.length_append, List.length_singleton]; omega)
def letterlocklaw10_TreeProves.Pure : Prop := ∀ (l0 : List Int) (a1 : Int) (a2 : Int) (a3 : Int), l0.length ≤ maxLen → l0.length * 8 ≤ 140737488351232 → (∀ x ∈ l0, (Lit.int .i64 x).wf = true) → (Lit.int .i64 a1).wf = true → (Lit.int .i64 a2).wf = true → (Lit.int .i64 a3).wf = true → (∃ k, letterlocklaw10_TreeProves.f k l0 a1 a2 a3 = some true) ∧ ProvesEnd l0 a1 a3
theorem up_some {α : Type} {g : Nat → Option α} (hm : ∀ k, LeO (g k) (g (k + 1))) {k : Nat} {r : α} (h : g k = some r) : ∀ d, g (k + d) = some r
  | 0 => h
  | d + 1 => hm _ _ (up_some hm h d)
theorem pick_zero (c : Int) : letterlocklaw10_pick.f c 0 = none := by
  unfold letterlocklaw10_pick.f
  split <;> simp
theorem verifyK (k : Nat) (root t : ByteArray) (n a : Int) (l : List ByteArray) (r : Bool) (h : verifyT (S root) n a (S t) (l.map S) = r) : tree_Verify.f k root n a t l = some r := by rw [tree_Verify.f, h]
theorem proof_good (k : Nat) (hk : 8 ≤ k) (ls : List (List UInt8)) (hg : GoodAll ls) (h1 : 1 ≤ ls.length) (h8 : ls.length ≤ 8) (p : Nat) (hp : p < ls.length) : tree_Proof.f k (ls.map B) (p : Int) = some ((proofL ls p).map B, 0) := by
  rw [tree_Proof.f, tree_Root.good k hk ls hg h1 h8, Option.bind_some, if_pos rfl, if_pos (by rw [List.length_map]; omega), Int.toNat_natCast, List.map_map, show (S ∘ B) = id from by funext z; exact S_B z, List.map_id]
/-- Behind the many calls: the last ones. -/
theorem proves_j1 (k : Nat) (a3 : Int) (b0 : -9223372036854775808 ≤ a3) (b1 : a3 ≤ 9223372036854775807) (rs ps : List ByteArray) (T X : ByteArray) (n p j : Nat) (KN : Known rs ps T X n p j) :
    letterlocklaw10_TreeProves.j1 (k + 1) a3 rs (rs.length : Int) T ps false = some true := by
  have hn := KN.hn
  have n1 := KN.n1
  have n8 := KN.n8
  have p3 := KN.p3
  rw [letterlocklaw10_TreeProves.j1, if_neg (by decide)]
  by_cases h1 : n = 1
  · rw [if_pos (by omega), if_pos (by omega), verifyK k T _ 2 0 [T] false (KN.two h1), Option.bind_some, if_neg (by decide), verifyK k T _ 1 0 [T] false (KN.one h1), Option.bind_some]
    rfl
  · have hp1 := KN.p1 (by omega)
    obtain ⟨m, hm, em⟩ := letterlocklaw10_pick.of a3 b0 b1 ps.length (by omega) (by omega)
    have q1 : ([] : List ByteArray).length + ps.length < 8796093022208 := Nat.lt_of_le_of_lt (show _ ≤ 8 by rw [List.length_nil]; omega) (by omega)
    have q2 : (rdOf ByteArray.empty ps (m : Int)).size ≤ 4000 := KN.szp _ (getD_mem ps m ByteArray.empty hm)
    rw [if_neg (by omega), em, Option.bind_some, Option.bind_some, if_pos q1, Option.bind_some, List.nil_append, if_pos (by omega), if_pos (by omega), if_pos (by omega)]
theorem proves_j0 (k : Nat) (a2 a3 : Int) (b0 : -9223372036854775808 ≤ a3) (b1 : a3 ≤ 9223372036854775807) (rs ps : List ByteArray) (T X : ByteArray) (n p j o : Nat) (KN : Known rs ps T X n p j) (ho : o < 9)
    (eo : letterlocklaw10_pick.f a2 9 = some (o : Int)) (ej : letterlocklaw10_pick.f a2 (rs.length : Int) = some (j : Int)) (e : Int) (eL : tree_Leaf.f (k + 1) (⟨#[111, 116, 104, 101, 114]⟩ : ByteArray) (o : Int) = some (X, e)) :
    letterlocklaw10_TreeProves.j0 (k + 2) a2 a3 rs (rs.length : Int) (p : Int) T ps false = some true := by
  have hn := KN.hn
  subst hn
  have n8 := KN.n8
  have kn := KN.kn
  have jn := KN.jn
  have s1 := KN.sz
  have s2 : (rdOf ByteArray.empty rs (p : Int)).size ≤ 40 := KN.szr _ (getD_mem rs p ByteArray.empty kn)
  have J := proves_j1 k a3 b0 b1 rs ps T X rs.length p j KN
  rw [letterlocklaw10_TreeProves.j0, if_neg (by decide), eo, Option.bind_some, wu64 _ (by omega) (by omega), eL, Option.bind_some, ej, Option.bind_some, verifyK (k + 1) T X _ _ ps false KN.other, Option.bind_some, if_neg (by decide), if_pos (by omega), if_pos (by omega), if_pos (by omega), if_pos (by omega)]
  by_cases hy : (rdOf ByteArray.empty rs (j : Int)).toList = (rdOf ByteArray.empty rs (p : Int)).toList
  · rw [if_pos hy, verifyK (k + 1) T _ _ _ ps false KN.far, Option.bind_some, if_neg (by decide), verifyK (k + 1) T _ _ _ ps false KN.low, Option.bind_some, if_neg (by decide), if_pos (by omega), verifyK (k + 1) _ _ _ _ ps false KN.root, Option.bind_some, if_neg (by decide), if_pos (by omega), verifyK (k + 1) _ _ _ _ ps false KN.none, Option.bind_some]
    exact J
  · rw [if_neg hy, verifyK (k + 1) T _ _ _ ps false (KN.leaf hy), Option.bind_some, if_neg (by decide), verifyK (k + 1) T _ _ _ ps false KN.far, Option.bind_some, if_neg (by decide), verifyK (k + 1) T _ _ _ ps false KN.low, Option.bind_some, if_neg (by decide), if_pos (by omega), verifyK (k + 1) _ _ _ _ ps false KN.root, Option.bind_some, if_neg (by decide), if_pos (by omega), verifyK (k + 1) _ _ _ _ ps false KN.none, Option.bind_some]
    exact J
theorem TreeProves : letterlocklaw10_TreeProves.Pure := by
  intro l0 a1 a2 a3 m0 y0 w0 w1 w2 w3
  obtain ⟨ls, hls, hlen, K1, e1⟩ := letterlocklaw10_row.ev l0 w0
  have hg := leaves_good hls
  obtain ⟨K2, e2⟩ := letterlocklaw10_shown.ev
  have h8 : ls.length ≤ 8 := by omega
  obtain ⟨b10, b11⟩ := wfi64 w1
  obtain ⟨b20, b21⟩ := wfi64 w2
  obtain ⟨b30, b31⟩ := wfi64 w3
  have hrow : ∀ k rs, letterlocklaw10_row.f k l0 = some rs → rs = ls.map B := by
    intro k rs h
    have h1 : letterlocklaw10_row.f (k + K1) l0 = some rs := up_some (g := fun k => letterlocklaw10_row.f k l0) (fun k => letterlocklaw10_row.mono l0 k) h K1
    have h2 : letterlocklaw10_row.f (k + K1) l0 = some (ls.map B) := e1 (k + K1) (by omega)
    rw [h1] at h2
    exact Option.some.inj h2
  by_cases hz : ls.length = 0
  · refine ⟨⟨K1 + K2, ?_⟩, ?_⟩
    · have g1 : letterlocklaw10_row.f (K1 + K2) l0 = _ := e1 _ (by omega)
      have g2 : letterlocklaw10_shown.f (K1 + K2) = _ := e2 _ (by omega)
      rw [letterlocklaw10_TreeProves.f, g2, Option.bind_some, g1, Option.bind_some, if_pos rfl, if_pos (by rw [List.length_map, hz]; rfl)]
    · intro k rs ps T e f kk m hr _ hp _ _ _
      obtain rfl := hrow k rs hr
      rw [List.length_map, hz] at hp
      exact absurd (hp.symm.trans (pick_zero a1)) (by simp)
  · have h1 : 1 ≤ ls.length := by omega
    obtain ⟨p, hp, ep⟩ := letterlocklaw10_pick.of a1 b10 b11 ls.length (by omega) (by omega)
    obtain ⟨o, ho, eo⟩ := letterlocklaw10_pick.of a2 b20 b21 9 (by decide) (by decide)
    have eo : letterlocklaw10_pick.f a2 9 = some (o : Int) := eo
    obtain ⟨j, hj, ej⟩ := letterlocklaw10_pick.of a2 b20 b21 ls.length (by omega) (by omega)
    have KN := known hls h1 h8 p j o hp hj ho
    have hm : (ls.map B).length = ls.length := List.length_map ..
    refine ⟨?_, ?_⟩
    · obtain ⟨K3, e3⟩ := tree_Leaf.ev [111, 116, 104, 101, 114] (by decide) o (by omega)
      rw [leafOfL_small _ o (by decide) (by omega)] at e3
      refine ⟨K1 + K2 + K3 + 12, ?_⟩
      have g1 : letterlocklaw10_row.f (K1 + K2 + K3 + 12) l0 = _ := e1 _ (by omega)
      have g2 : letterlocklaw10_shown.f (K1 + K2 + K3 + 12) = _ := e2 _ (by omega)
      have g3 : tree_Leaf.f (K1 + K2 + K3 + 11) (⟨#[111, 116, 104, 101, 114]⟩ : ByteArray) (o : Int) = some (B (other o), 0) := e3 _ (by omega)
      have g4 := tree_Root.good (K1 + K2 + K3 + 12) (by omega) ls hg h1 h8
      have g5 := proof_good (K1 + K2 + K3 + 12) (by omega) ls hg h1 h8 p hp
      have g6 := verifyK (K1 + K2 + K3 + 12) (B (treeL ls).1) (rdOf ByteArray.empty (ls.map B) (p : Int)) (ls.length : Int) (p : Int) ((proofL ls p).map B) true KN.yes
      have p3 := KN.p3
      rw [← hm] at ep ej g6
      have J := proves_j0 (K1 + K2 + K3 + 10) a2 a3 b30 b31 (ls.map B) ((proofL ls p).map B) (B (treeL ls).1) (B (other o)) ls.length p j o KN ho eo ej 0 g3
      rw [letterlocklaw10_TreeProves.f, g2, Option.bind_some, g1, Option.bind_some, if_pos rfl, if_neg (by omega), ep, Option.bind_some, g4, Option.bind_some, g5, Option.bind_some, if_pos rfl, if_pos rfl, if_pos (by omega), if_pos (by omega), g6, Option.bind_some, if_pos rfl, if_neg (show ¬ ((((proofL ls p).map B, (0 : Int)).1.length : Int) > 3) from by show ¬ ((((proofL ls p).map B).length : Int) > 3); omega)]
      by_cases hn : 1 < ls.length
      · have hp1 := KN.p1 hn
        rw [if_pos (by omega), show ((((proofL ls p).map B, (0 : Int)).1.length : Int) == 0) = false from beq_eq_false_iff_ne.mpr (by show ¬ ((((proofL ls p).map B).length : Int) = 0); omega)]
        exact J
      · rw [if_neg (by omega)]
        exact J
    · intro k rs ps T e f kk m hr hT hk hP hmm hne
      obtain rfl := hrow k rs hr
      have g4 := tree_Root.good (k + 8) (by omega) ls hg h1 h8
      have g5 := proof_good (k + 8) (by omega) ls hg h1 h8 p hp
      rw [hm] at hk
      obtain rfl : kk = (p : Int) := Option.some.inj (hk.symm.trans ep)
      have hT2 : tree_Root.f (k + 8) (ls.map B) = some (T, e) := up_some (g := fun k => tree_Root.f k (ls.map B)) (fun k => tree_Root.mono (ls.map B) k) hT 8
      have hP2 : tree_Proof.f (k + 8) (ls.map B) (p : Int) = some (ps, f) := up_some (g := fun k => tree_Proof.f k (ls.map B) (p : Int)) (fun k => tree_Proof.mono (ls.map B) (p : Int) k) hP 8
      rw [g4] at hT2
      rw [g5] at hP2
      obtain ⟨rfl, rfl⟩ := Prod.mk.inj (Option.some.inj hT2)
      obtain ⟨rfl, rfl⟩ := Prod.mk.inj (Option.some.inj hP2)
      have hp1 := KN.p1 (by omega)
      obtain ⟨q, hq, eq⟩ := letterlocklaw10_pick.of a3 b30 b31 ((proofL ls p).map B).length (by omega) (by have := KN.p3; omega)
      obtain rfl : m = (q : Int) := Option.some.inj (hmm.symm.trans eq)
      refine ⟨by omega, by omega, hp1, KN.p3, ?_, ?_, ?_⟩
      · rw [hm, Int.toNat_natCast]; exact KN.put q hq
      · rw [hm]; exact KN.less hp1
      · rw [hm]; exact KN.more
end Go.Proofs.Ytbbcklpenafefaa.P
