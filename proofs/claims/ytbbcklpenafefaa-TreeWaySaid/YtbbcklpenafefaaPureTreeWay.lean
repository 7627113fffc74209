/- TreeWay: a proof's terms are the trees of rows that stand beside one another, and hold all leaves but one (of a row of leaves that are unlike). -/
import Derived.Test.YtbbcklpenafefaaELaw10
import Derived.Test.YtbbcklpenafefaaGLTreeWay
namespace Go.Proofs.Ytbbcklpenafefaa.Pure
set_option linter.unusedVariables false
set_option linter.unusedSimpArgs false
open Go.RowKit Go.Proofs.Ytbbcklpenafefaa.P Go.Proofs.YtbbcklpenafefaaW.PrintWords Go.Proofs.YtbbcklpenafefaaW.PrintLast Go.Proofs.YtbbcklpenafefaaW.PrintMore
/-! ### the row around a leaf grows by the forks, from the last one on -/
inductive Ext : Nat → Nat → List Fk → Nat → Nat → Prop
  | nil (a b : Nat) : Ext a b [] a b
  | right {a b c lo hi : Nat} {R : List Fk} : b < c → Ext a c R lo hi → Ext a b (⟨(b : Int), (c : Int), false⟩ :: R) lo hi
  | left {a b c lo hi : Nat} {R : List Fk} : c < a → Ext c b R lo hi → Ext a b (⟨(c : Int), (a : Int), true⟩ :: R) lo hi
theorem Ext.snocR {a b lo hi c : Nat} {R : List Fk} (h : Ext a b R lo hi) (hc : hi < c) : Ext a b (R ++ [⟨(hi : Int), (c : Int), false⟩]) lo c := by
  induction h with
  | nil a b => exact .right hc (.nil _ _)
  | right h1 _ ih => exact .right h1 (ih hc)
  | left h1 _ ih => exact .left h1 (ih hc)
theorem Ext.snocL {a b lo hi c : Nat} {R : List Fk} (h : Ext a b R lo hi) (hc : c < lo) : Ext a b (R ++ [⟨(c : Int), (lo : Int), true⟩]) c hi := by
  induction h with
  | nil a b => exact .left hc (.nil _ _)
  | right h1 _ ih => exact .right h1 (ih hc)
  | left h1 _ ih => exact .left h1 (ih hc)
theorem forks_ext (p : Nat) : ∀ (m lo hi : Nat), hi - lo ≤ m → lo ≤ p → p < hi → Ext p (p + 1) (forks p lo hi).reverse lo hi := by
  intro m
  induction m with
  | zero => intro lo hi h1 h2 h3; omega
  | succ m ih =>
    intro lo hi h1 h2 h3
    rw [forks]
    split
    · rename_i h
      have f1 := firstN_pos (hi - lo)
      have f2 := firstN_lt h
      split
      · rw [List.reverse_cons]
        exact (ih (lo + firstN (hi - lo)) hi (by omega) (by omega) h3).snocL (by omega)
      · rw [List.reverse_cons]
        exact (ih lo (lo + firstN (hi - lo)) (by omega) h2 (by omega)).snocR (by omega)
    · have : lo = p := by omega
      have : hi = p + 1 := by omega
      subst_vars
      exact .nil _ _
theorem Ext.mono {a b lo hi : Nat} {R : List Fk} (h : Ext a b R lo hi) : lo ≤ a ∧ b ≤ hi := by
  induction h with
  | nil a b => exact ⟨Nat.le_refl _, Nat.le_refl _⟩
  | right h1 _ ih => exact ⟨ih.1, by omega⟩
  | left h1 _ ih => exact ⟨by omega, ih.2⟩
/-! ### unlike leaves -/
def rng (ls : List (List UInt8)) (a b : Nat) : List (List UInt8) := (ls.take b).drop a
theorem rng_len (ls : List (List UInt8)) (a b : Nat) (hb : b ≤ ls.length) : (rng ls a b).length = b - a := by
  unfold rng
  rw [List.length_drop, List.length_take]
  omega
theorem rng_good {ls : List (List UInt8)} (hg : GoodAll ls) (a b : Nat) : GoodAll (rng ls a b) := (hg.take b).drop a
def Unlike (ls : List (List UInt8)) (i : Nat) : Prop := ∀ a c, c < a → a < i → ls[a]? ≠ ls[c]?
theorem rng_get (ls : List (List UInt8)) (a b : Nat) (h : a < b) : (rng ls a b)[0]? = ls[a]? := by
  unfold rng
  rw [List.getElem?_drop, List.getElem?_take, if_pos (by omega), Nat.add_zero]
theorem rng_inj {ls : List (List UInt8)} (hu : Unlike ls ls.length) {a b c d : Nat} (h1 : a < b) (h2 : b ≤ ls.length) (h3 : c < d) (h4 : d ≤ ls.length) (e : rng ls a b = rng ls c d) : a = c ∧ b = d := by
  have e0 : (rng ls a b)[0]? = (rng ls c d)[0]? := by rw [e]
  rw [rng_get ls a b h1, rng_get ls c d h3] at e0
  have hac : a = c := by
    rcases Nat.lt_trichotomy a c with h | h | h
    · exact absurd e0.symm (hu c a h (by omega))
    · exact h
    · exact absurd e0 (hu a c h (by omega))
  have el := congrArg List.length e
  rw [rng_len ls a b h2, rng_len ls c d h4] at el
  exact ⟨hac, by omega⟩
theorem rng_tree {ls : List (List UInt8)} (hg : GoodAll ls) (h8 : ls.length ≤ 8) {a b : Nat} (h1 : a < b) (h2 : b ≤ ls.length) (F : Nat) (hF : 8 ≤ F) : tree_Root.f F (((ls.map B).take b).drop a) = some (B (treeL (rng ls a b)).1, 0) := by
  rw [← List.map_take, ← List.map_drop]
  have hl := rng_len ls a b h2
  exact tree_Root.good F hF (rng ls a b) (rng_good hg a b) (by omega) (by omega)
theorem rng_ne {ls : List (List UInt8)} (hg : GoodAll ls) (h8 : ls.length ≤ 8) (hu : Unlike ls ls.length) {a b c d : Nat} (h1 : a < b) (h2 : b ≤ ls.length) (h3 : c < d) (h4 : d ≤ ls.length) (hne : ¬ (a = c ∧ b = d)) : ¬ (treeL (rng ls a b)).1 = (treeL (rng ls c d)).1 := by
  intro e
  have l1 := rng_len ls a b h2
  have l2 := rng_len ls c d h4
  exact hne (rng_inj hu h1 h2 h3 h4 (treeL_inj _ _ _ rfl (rng_good hg a b) (rng_good hg c d) (by omega) (by omega) (by omega) (by omega) e))
/-! ### one step of the search -/
section
variable (ls : List (List UInt8)) (xs : List ByteArray) (hg : GoodAll ls) (h8 : ls.length ≤ 8) (T : List UInt8) (low high i k : Nat) (hi : i < xs.length) (hT : rdOf ByteArray.empty xs (i : Int) = B T) (hk : 1 ≤ k) (hkn : k ≤ ls.length) (hlh : low < high) (hh : high ≤ ls.length) (hx : xs.length ≤ 100)
include hg h8 hi hT hk hkn hlh hh hx
theorem step_left_part (F : Nat) (hF : 8 ≤ F) (hl : k ≤ low → ¬ (treeL (rng ls (low - k) low)).1 = T) : letterlocklaw10_TreeWay.j5 (F + 2) (ls.map B) xs (low : Int) (high : Int) (i : Int) false (k : Int) = letterlocklaw10_TreeWay.l1 F (ls.map B) xs (low : Int) (high : Int) (i : Int) false ((k + 1 : Nat) : Int) := by
  have _ := hx
  have hw : wrap64 ((k : Int) + 1) = ((k + 1 : Nat) : Int) := by rw [w64 _ (by omega) (by omega)]; omega
  rw [letterlocklaw10_TreeWay.j5, if_neg (by decide)]
  by_cases hkl : k ≤ low
  · have hw2 : wrap64 ((low : Int) - (k : Int)) = ((low - k : Nat) : Int) := by rw [w64 _ (by omega) (by omega)]; omega
    rw [decide_eq_true (by omega), letterlocklaw10_TreeWay.j6, if_pos rfl, hw2, if_pos (by omega), if_pos (by omega), if_pos (by rw [List.length_map]; omega), Int.toNat_natCast, Int.toNat_natCast, rng_tree hg h8 (by omega) (by omega) F hF, Option.bind_some, if_pos rfl, if_pos (by omega), if_pos (by omega), hT, hw]
    simp only [toList_B]
    rw [if_neg (hl hkl)]
  · rw [decide_eq_false (by omega), letterlocklaw10_TreeWay.j6, if_neg (by decide), hw]
theorem step_miss (F : Nat) (hF : 8 ≤ F) (hr : high + k ≤ ls.length → ¬ (treeL (rng ls high (high + k))).1 = T) (hl : k ≤ low → ¬ (treeL (rng ls (low - k) low)).1 = T) :
    letterlocklaw10_TreeWay.l1 (F + 4) (ls.map B) xs (low : Int) (high : Int) (i : Int) false (k : Int) = letterlocklaw10_TreeWay.l1 F (ls.map B) xs (low : Int) (high : Int) (i : Int) false ((k + 1 : Nat) : Int) := by
  have hw : wrap64 ((high : Int) + (k : Int)) = ((high + k : Nat) : Int) := by rw [w64 _ (by omega) (by omega)]; omega
  have J := step_left_part ls xs hg h8 T low high i k hi hT hk hkn hlh hh hx F hF hl
  rw [letterlocklaw10_TreeWay.l1, List.length_map, if_pos (by omega), Bool.not_false, letterlocklaw10_TreeWay.j4, if_pos rfl, hw, List.length_map]
  by_cases hkh : high + k ≤ ls.length
  · rw [if_pos (by omega), if_pos (by omega), if_pos (by omega), Int.toNat_natCast, Int.toNat_natCast, rng_tree hg h8 (by omega) hkh (F + 2) (by omega), Option.bind_some, if_pos rfl, if_pos (by omega), if_pos (by omega), hT]
    simp only [toList_B]
    rw [if_neg (hr hkh)]
    exact J
  · rw [if_neg (by omega)]
    exact J
theorem step_right (F : Nat) (hF : 8 ≤ F) (hkh : high + k ≤ ls.length) (hr : (treeL (rng ls high (high + k))).1 = T) :
    letterlocklaw10_TreeWay.l1 (F + 6) (ls.map B) xs (low : Int) (high : Int) (i : Int) false (k : Int) = letterlocklaw10_TreeWay.l0 F (ls.map B) xs (low : Int) ((high + k : Nat) : Int) ((i + 1 : Nat) : Int) := by
  have _ := hlh
  have _ := hh
  have hw : wrap64 ((high : Int) + (k : Int)) = ((high + k : Nat) : Int) := by rw [w64 _ (by omega) (by omega)]; omega
  have hw2 : wrap64 ((k : Int) + 1) = ((k + 1 : Nat) : Int) := by rw [w64 _ (by omega) (by omega)]; omega
  have tail : letterlocklaw10_TreeWay.l1 (F + 2) (ls.map B) xs (low : Int) ((high + k : Nat) : Int) (i : Int) true ((k + 1 : Nat) : Int) = letterlocklaw10_TreeWay.l0 F (ls.map B) xs (low : Int) ((high + k : Nat) : Int) ((i + 1 : Nat) : Int) := by
    have hw3 : wrap64 ((i : Int) + 1) = ((i + 1 : Nat) : Int) := by rw [w64 _ (by omega) (by omega)]; omega
    rw [letterlocklaw10_TreeWay.l1, Bool.not_true, ite_self, letterlocklaw10_TreeWay.j4, if_neg (by decide), if_pos rfl, hw3]
  rw [letterlocklaw10_TreeWay.l1, List.length_map, if_pos (by omega), Bool.not_false, letterlocklaw10_TreeWay.j4, if_pos rfl, hw, List.length_map, if_pos (by omega), if_pos (by omega), if_pos (by omega), Int.toNat_natCast, Int.toNat_natCast, rng_tree hg h8 (by omega) hkh (F + 4) (by omega), Option.bind_some, if_pos rfl, if_pos (by omega), if_pos (by omega), hT]
  simp only [toList_B]
  rw [if_pos hr, letterlocklaw10_TreeWay.j5, if_pos rfl, letterlocklaw10_TreeWay.j6, if_neg (by decide), hw2]
  exact tail
theorem step_left (F : Nat) (hF : 8 ≤ F) (hkl : k ≤ low) (hr : high + k ≤ ls.length → ¬ (treeL (rng ls high (high + k))).1 = T) (hl : (treeL (rng ls (low - k) low)).1 = T) :
    letterlocklaw10_TreeWay.l1 (F + 6) (ls.map B) xs (low : Int) (high : Int) (i : Int) false (k : Int) = letterlocklaw10_TreeWay.l0 F (ls.map B) xs ((low - k : Nat) : Int) (high : Int) ((i + 1 : Nat) : Int) := by
  have hw : wrap64 ((high : Int) + (k : Int)) = ((high + k : Nat) : Int) := by rw [w64 _ (by omega) (by omega)]; omega
  have hw2 : wrap64 ((k : Int) + 1) = ((k + 1 : Nat) : Int) := by rw [w64 _ (by omega) (by omega)]; omega
  have hw4 : wrap64 ((low : Int) - (k : Int)) = ((low - k : Nat) : Int) := by rw [w64 _ (by omega) (by omega)]; omega
  have tail : letterlocklaw10_TreeWay.l1 (F + 2) (ls.map B) xs ((low - k : Nat) : Int) (high : Int) (i : Int) true ((k + 1 : Nat) : Int) = letterlocklaw10_TreeWay.l0 F (ls.map B) xs ((low - k : Nat) : Int) (high : Int) ((i + 1 : Nat) : Int) := by
    have hw3 : wrap64 ((i : Int) + 1) = ((i + 1 : Nat) : Int) := by rw [w64 _ (by omega) (by omega)]; omega
    rw [letterlocklaw10_TreeWay.l1, Bool.not_true, ite_self, letterlocklaw10_TreeWay.j4, if_neg (by decide), if_pos rfl, hw3]
  have J : letterlocklaw10_TreeWay.j5 (F + 4) (ls.map B) xs (low : Int) (high : Int) (i : Int) false (k : Int) = letterlocklaw10_TreeWay.l0 F (ls.map B) xs ((low - k : Nat) : Int) (high : Int) ((i + 1 : Nat) : Int) := by
    rw [letterlocklaw10_TreeWay.j5, if_neg (by decide), decide_eq_true (by omega), letterlocklaw10_TreeWay.j6, if_pos rfl, hw4, if_pos (by omega), if_pos (by omega), if_pos (by rw [List.length_map]; omega), Int.toNat_natCast, Int.toNat_natCast, rng_tree hg h8 (by omega) (by omega) (F + 2) (by omega), Option.bind_some, if_pos rfl, if_pos (by omega), if_pos (by omega), hT, hw2]
    simp only [toList_B]
    rw [if_pos hl]
    exact tail
  rw [letterlocklaw10_TreeWay.l1, List.length_map, if_pos (by omega), Bool.not_false, letterlocklaw10_TreeWay.j4, if_pos rfl, hw, List.length_map]
  by_cases hkh : high + k ≤ ls.length
  · rw [if_pos (by omega), if_pos (by omega), if_pos (by omega), Int.toNat_natCast, Int.toNat_natCast, rng_tree hg h8 (by omega) hkh (F + 4) (by omega), Option.bind_some, if_pos rfl, if_pos (by omega), if_pos (by omega), hT]
    simp only [toList_B]
    rw [if_neg (hr hkh)]
    exact J
  · rw [if_neg (by omega)]
    exact J
end
/-! ### the search -/
section
variable (ls : List (List UInt8)) (xs : List ByteArray) (hg : GoodAll ls) (h8 : ls.length ≤ 8) (hu : Unlike ls ls.length) (low high i : Nat) (hi : i < xs.length) (hlh : low < high) (hh : high ≤ ls.length) (hx : xs.length ≤ 100)
include hg h8 hu hi hlh hh hx
theorem search_right (c : Nat) (hc : high < c) (hcn : c ≤ ls.length) (hT : rdOf ByteArray.empty xs (i : Int) = B (treeL (rng ls high c)).1) (hnext : Ev (fun k => letterlocklaw10_TreeWay.l0 k (ls.map B) xs (low : Int) (c : Int) ((i + 1 : Nat) : Int)) true) :
    ∀ (m k : Nat), k + m = c - high → 1 ≤ k → Ev (fun F => letterlocklaw10_TreeWay.l1 F (ls.map B) xs (low : Int) (high : Int) (i : Int) false (k : Int)) true := by
  intro m
  induction m with
  | zero =>
    intro k hk h1
    obtain ⟨K, e⟩ := hnext
    refine ⟨K + 16, fun F hF => ?_⟩
    obtain ⟨F, rfl⟩ : ∃ m, F = m + 6 := ⟨F - 6, by omega⟩
    show letterlocklaw10_TreeWay.l1 (F + 6) _ _ _ _ _ _ _ = _
    have hkc : high + k = c := by omega
    rw [step_right ls xs hg h8 _ low high i k hi hT h1 (by omega) hlh hh hx F (by omega) (by omega) (by rw [hkc]), hkc]
    exact e F (by omega)
  | succ m ih =>
    intro k hk h1
    obtain ⟨K, e⟩ := ih (k + 1) (by omega) (by omega)
    refine ⟨K + 16, fun F hF => ?_⟩
    obtain ⟨F, rfl⟩ : ∃ m, F = m + 4 := ⟨F - 4, by omega⟩
    show letterlocklaw10_TreeWay.l1 (F + 4) _ _ _ _ _ _ _ = _
    rw [step_miss ls xs hg h8 _ low high i k hi hT h1 (by omega) hlh hh hx F (by omega) (fun h => rng_ne hg h8 hu (by omega) h hc hcn (by omega)) (fun h => rng_ne hg h8 hu (by omega) (by omega) hc hcn (by omega))]
    exact e F (by omega)
theorem search_left (c : Nat) (hc : c < low) (hT : rdOf ByteArray.empty xs (i : Int) = B (treeL (rng ls c low)).1) (hnext : Ev (fun k => letterlocklaw10_TreeWay.l0 k (ls.map B) xs (c : Int) (high : Int) ((i + 1 : Nat) : Int)) true) :
    ∀ (m k : Nat), k + m = low - c → 1 ≤ k → Ev (fun F => letterlocklaw10_TreeWay.l1 F (ls.map B) xs (low : Int) (high : Int) (i : Int) false (k : Int)) true := by
  intro m
  induction m with
  | zero =>
    intro k hk h1
    obtain ⟨K, e⟩ := hnext
    refine ⟨K + 16, fun F hF => ?_⟩
    obtain ⟨F, rfl⟩ : ∃ m, F = m + 6 := ⟨F - 6, by omega⟩
    show letterlocklaw10_TreeWay.l1 (F + 6) _ _ _ _ _ _ _ = _
    have hkc : low - k = c := by omega
    rw [step_left ls xs hg h8 _ low high i k hi hT h1 (by omega) hlh hh hx F (by omega) (by omega) (fun h => rng_ne hg h8 hu (by omega) h hc (by omega) (by omega)) (by rw [hkc]), hkc]
    exact e F (by omega)
  | succ m ih =>
    intro k hk h1
    obtain ⟨K, e⟩ := ih (k + 1) (by omega) (by omega)
    refine ⟨K + 16, fun F hF => ?_⟩
    obtain ⟨F, rfl⟩ : ∃ m, F = m + 4 := ⟨F - 4, by omega⟩
    show letterlocklaw10_TreeWay.l1 (F + 4) _ _ _ _ _ _ _ = _
    rw [step_miss ls xs hg h8 _ low high i k hi hT h1 (by omega) hlh hh hx F (by omega) (fun h => rng_ne hg h8 hu (by omega) h hc (by omega) (by omega)) (fun h => rng_ne hg h8 hu (by omega) (by omega) hc (by omega) (by omega))]
    exact e F (by omega)
end
theorem search (ls : List (List UInt8)) (xs : List ByteArray) (hg : GoodAll ls) (h8 : ls.length ≤ 8) (hu : Unlike ls ls.length) (hx : xs.length ≤ 100) {low high lo hi : Nat} {R : List Fk} (h : Ext low high R lo hi) :
    ∀ (i : Nat), lo = 0 → hi = ls.length → low < high → i + R.length = xs.length → (∀ (j : Nat) (hj : j < R.length), rdOf ByteArray.empty xs ((i + j : Nat) : Int) = B (treeL (rng ls R[j].f0.toNat R[j].f1.toNat)).1) →
    Ev (fun F => letterlocklaw10_TreeWay.l0 F (ls.map B) xs (low : Int) (high : Int) (i : Int)) true := by
  induction h with
  | nil a b =>
    intro i h0 hn hlh hil hq
    subst h0 hn
    refine ⟨1, fun F hF => ?_⟩
    obtain ⟨F, rfl⟩ : ∃ m, F = m + 1 := ⟨F - 1, by omega⟩
    show letterlocklaw10_TreeWay.l0 (F + 1) _ _ _ _ _ = _
    rw [letterlocklaw10_TreeWay.l0, if_neg (by simp at hil; omega), List.length_map, w64 _ (by omega) (by omega)]
    simp
  | @right a b c lo hi R hbc hE ih =>
    intro i h0 hn hlh hil hq
    rw [List.length_cons] at hil
    have hm := hE.mono
    have hT := hq 0 (by simp)
    simp only [Nat.add_zero, List.getElem_cons_zero, Int.toNat_natCast] at hT
    have hnext := ih (i + 1) h0 hn (by omega) (by omega) (fun j hj => by
      have h := hq (j + 1) (by simp; omega)
      rw [List.getElem_cons_succ, show i + (j + 1) = i + 1 + j from by omega] at h
      exact h)
    obtain ⟨K, e⟩ := search_right ls xs hg h8 hu a b i (by omega) hlh (by omega) hx c hbc (by omega) hT hnext (c - b - 1) 1 (by omega) (Nat.le_refl _)
    refine ⟨K + 1, fun F hF => ?_⟩
    obtain ⟨F, rfl⟩ : ∃ m, F = m + 1 := ⟨F - 1, by omega⟩
    show letterlocklaw10_TreeWay.l0 (F + 1) _ _ _ _ _ = _
    rw [letterlocklaw10_TreeWay.l0, if_pos (by omega)]
    exact e F (by omega)
  | @left a b c lo hi R hca hE ih =>
    intro i h0 hn hlh hil hq
    rw [List.length_cons] at hil
    have hm := hE.mono
    have hT := hq 0 (by simp)
    simp only [Nat.add_zero, List.getElem_cons_zero, Int.toNat_natCast] at hT
    have hnext := ih (i + 1) h0 hn (by omega) (by omega) (fun j hj => by
      have h := hq (j + 1) (by simp; omega)
      rw [List.getElem_cons_succ, show i + (j + 1) = i + 1 + j from by omega] at h
      exact h)
    obtain ⟨K, e⟩ := search_left ls xs hg h8 hu a b i (by omega) hlh (by omega) hx c hca hT hnext (a - c - 1) 1 (by omega) (Nat.le_refl _)
    refine ⟨K + 1, fun F hF => ?_⟩
    obtain ⟨F, rfl⟩ : ∃ m, F = m + 1 := ⟨F - 1, by omega⟩
    show letterlocklaw10_TreeWay.l0 (F + 1) _ _ _ _ _ = _
    rw [letterlocklaw10_TreeWay.l0, if_pos (by omega)]
    exact e F (by omega)
/-! ### are two leaves the same? -/
theorem same1_l1 (ls : List (List UInt8)) (h8 : ls.length ≤ 8) (i : Nat) (hi : i < ls.length) (hp : Unlike ls i) (hnext : Unlike ls (i + 1) → ∃ b, Ev (fun k => letterlocklaw10_same1.l0 k (ls.map B) ((i + 1 : Nat) : Int)) b ∧ (b = false → Unlike ls ls.length)) :
    ∀ (m j : Nat), j + m = i → (∀ c, c < j → ls[i]? ≠ ls[c]?) → ∃ b, Ev (fun k => letterlocklaw10_same1.l1 k (ls.map B) (i : Int) (j : Int)) b ∧ (b = false → Unlike ls ls.length) := by
  intro m
  induction m with
  | zero =>
    intro j hj hc
    obtain rfl : j = i := by omega
    obtain ⟨b, ⟨K, e⟩, hb⟩ := hnext (by
      intro a c h1 h2
      by_cases h : a < j
      · exact hp a c h1 h
      · obtain rfl : a = j := by omega
        exact hc c h1)
    refine ⟨b, ⟨K + 1, fun k hk => ?_⟩, hb⟩
    obtain ⟨k, rfl⟩ : ∃ m, k = m + 1 := ⟨k - 1, by omega⟩
    show letterlocklaw10_same1.l1 (k + 1) _ _ _ = _
    rw [letterlocklaw10_same1.l1, if_neg (by omega), w64 _ (by omega) (by omega), show (j : Int) + 1 = ((j + 1 : Nat) : Int) from by omega]
    exact e k (by omega)
  | succ m ih =>
    intro j hj hc
    have hjn : j < ls.length := by omega
    by_cases h : ls[i] = ls[j]
    · refine ⟨true, ⟨1, fun k hk => ?_⟩, fun h => absurd h (by decide)⟩
      obtain ⟨k, rfl⟩ : ∃ m, k = m + 1 := ⟨k - 1, by omega⟩
      show letterlocklaw10_same1.l1 (k + 1) _ _ _ = _
      rw [letterlocklaw10_same1.l1, if_pos (by omega), if_pos (by omega), if_pos (by rw [List.length_map]; omega), if_pos (by omega), if_pos (by rw [List.length_map]; omega), rdOf_map ls i hi, rdOf_map ls j hjn, toList_B, toList_B, if_pos h]
    · obtain ⟨b, ⟨K, e⟩, hb⟩ := ih (j + 1) (by omega) (by
        intro c h1
        by_cases h2 : c < j
        · exact hc c h2
        · obtain rfl : c = j := by omega
          rw [List.getElem?_eq_getElem hi, List.getElem?_eq_getElem hjn]
          exact fun e => h (Option.some.inj e))
      refine ⟨b, ⟨K + 1, fun k hk => ?_⟩, hb⟩
      obtain ⟨k, rfl⟩ : ∃ m, k = m + 1 := ⟨k - 1, by omega⟩
      show letterlocklaw10_same1.l1 (k + 1) _ _ _ = _
      rw [letterlocklaw10_same1.l1, if_pos (by omega), if_pos (by omega), if_pos (by rw [List.length_map]; omega), if_pos (by omega), if_pos (by rw [List.length_map]; omega), rdOf_map ls i hi, rdOf_map ls j hjn, toList_B, toList_B, if_neg h, w64 _ (by omega) (by omega), show (j : Int) + 1 = ((j + 1 : Nat) : Int) from by omega]
      exact e k (by omega)
theorem same1_l0 (ls : List (List UInt8)) (h8 : ls.length ≤ 8) : ∀ (m i : Nat), i + m = ls.length → Unlike ls i → ∃ b, Ev (fun k => letterlocklaw10_same1.l0 k (ls.map B) (i : Int)) b ∧ (b = false → Unlike ls ls.length) := by
  intro m
  induction m with
  | zero =>
    intro i hi hp
    refine ⟨false, ⟨1, fun k hk => ?_⟩, fun _ => by rw [← hi]; exact hp⟩
    obtain ⟨k, rfl⟩ : ∃ m, k = m + 1 := ⟨k - 1, by omega⟩
    show letterlocklaw10_same1.l0 (k + 1) _ _ = _
    rw [letterlocklaw10_same1.l0, if_neg (by rw [List.length_map]; omega)]
  | succ m ih =>
    intro i hi hp
    obtain ⟨b, ⟨K, e⟩, hb⟩ := same1_l1 ls h8 i (by omega) hp (fun h => ih (i + 1) (by omega) h) i 0 (by omega) (by intro c h; omega)
    refine ⟨b, ⟨K + 1, fun k hk => ?_⟩, hb⟩
    obtain ⟨k, rfl⟩ : ∃ m, k = m + 1 := ⟨k - 1, by omega⟩
    show letterlocklaw10_same1.l0 (k + 1) _ _ = _
    rw [letterlocklaw10_same1.l0, if_pos (by rw [List.length_map]; omega)]
    exact e k (by omega)
theorem TreeWay : letterlocklaw10_TreeWay.Pure := by
  intro l0 a1 h0 h0' w0 w1
  obtain ⟨K, e⟩ := letterlocklaw10_shown.ev
  obtain ⟨ls, hls, hlen, K1, e1⟩ := letterlocklaw10_row.ev l0 w0
  have hg := leaves_good hls
  have h8 : ls.length ≤ 8 := by omega
  by_cases hz : ls.length = 0
  · refine ⟨K + K1 + 1, ?_⟩
    have g : letterlocklaw10_shown.f (K + K1 + 1) = _ := e _ (by omega)
    have g1 : letterlocklaw10_row.f (K + K1 + 1) l0 = _ := e1 _ (by omega)
    unfold letterlocklaw10_TreeWay.f
    rw [g, Option.bind_some, g1, Option.bind_some, if_pos rfl, List.length_map, show ((ls.length : Int) == 0) = true from beq_iff_eq.mpr (by omega), letterlocklaw10_TreeWay.j0, if_pos rfl]
  · obtain ⟨b0, b1⟩ := wfi64 w1
    obtain ⟨p, hp, ep⟩ := letterlocklaw10_pick.of a1 b0 b1 ls.length (by omega) (by omega)
    obtain ⟨b, ⟨K2, e2⟩, hb⟩ := same1_l0 ls h8 ls.length 0 (by omega) (by intro a c h1 h2; omega)
    have hR : (proofL ls p) = ((forks p 0 ls.length).reverse).map (fun x => (treeL ((ls.take x.f1.toNat).drop x.f0.toNat)).1) := by rw [proofL, List.map_reverse]
    have hfl := forks_len8 p 0 ls.length (by omega)
    have hpl : (proofL ls p).length = (forks p 0 ls.length).length := by rw [hR, List.length_map, List.length_reverse]
    have main : b = false → Ev (fun F => letterlocklaw10_TreeWay.l0 F (ls.map B) ((proofL ls p).map B) (p : Int) ((p + 1 : Nat) : Int) ((0 : Nat) : Int)) true := by
      intro hbf
      refine search ls ((proofL ls p).map B) hg h8 (hb hbf) (by rw [List.length_map]; omega) (forks_ext p ls.length 0 ls.length (by omega) (by omega) hp) 0 rfl rfl (by omega) (by rw [List.length_map, List.length_reverse]; omega) ?_
      intro j hj
      rw [List.length_reverse] at hj
      rw [Nat.zero_add, rdOf_map (proofL ls p) j (by omega)]
      congr 1
      simp only [hR, List.getElem_map]
      rfl
    obtain ⟨K3, e3⟩ : ∃ K3, b = false → ∀ F, K3 ≤ F → letterlocklaw10_TreeWay.l0 F (ls.map B) ((proofL ls p).map B) (p : Int) ((p + 1 : Nat) : Int) ((0 : Nat) : Int) = some true := by
      cases hbb : b
      · obtain ⟨K3, e3⟩ := main hbb
        exact ⟨K3, fun _ => e3⟩
      · exact ⟨0, fun h => absurd h (by decide)⟩
    refine ⟨K + K1 + K2 + K3 + 20, ?_⟩
    generalize hk : K + K1 + K2 + K3 = k
    have g : letterlocklaw10_shown.f (k + 20) = _ := e _ (by omega)
    have g1 : letterlocklaw10_row.f (k + 20) l0 = _ := e1 _ (by omega)
    have g2 : letterlocklaw10_same1.f (k + 18) (ls.map B) = _ := e2 _ (by omega)
    have r := tree_Root.good (k + 19) (by omega) ls hg (by omega) h8
    have q : tree_Proof.f (k + 19) (ls.map B) (p : Int) = some ((proofL ls p).map B, 0) := by
      rw [tree_Proof.f, r, Option.bind_some, if_pos rfl, if_pos (by rw [List.length_map]; omega), Int.toNat_natCast, List.map_map, show (S ∘ B) = id from by funext z; exact S_B z, List.map_id]
    unfold letterlocklaw10_TreeWay.f
    rw [g, Option.bind_some, g1, Option.bind_some, if_pos rfl, List.length_map, show ((ls.length : Int) == 0) = false from beq_eq_false_iff_ne.mpr (by omega), letterlocklaw10_TreeWay.j0, if_neg (by decide), List.length_map, ep, Option.bind_some, q, Option.bind_some, if_pos rfl, List.length_map, decide_eq_false (by omega), letterlocklaw10_TreeWay.j1, if_neg (by decide), g2, Option.bind_some]
    cases hbb : b
    · rw [if_neg (by decide), w64 _ (by omega) (by omega), show (p : Int) + 1 = ((p + 1 : Nat) : Int) from by omega]
      exact e3 hbb _ (by omega)
    · rw [if_pos rfl]
end Go.Proofs.Ytbbcklpenafefaa.Pure
