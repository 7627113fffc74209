/- Slimmed by wip/slim.py. -/
import Derived.Test.YtodiffgpefidoaaDoorELaw10
import Derived.Test.YtodiffgpefidoaaDoorGRef10L
namespace Go.Proofs.YtodiffgpefidoaaDoor.P
open Go.RowKit Go.Proofs.YtodiffgpefidoaaDoorW.PrintWords Go.Proofs.YtodiffgpefidoaaDoorW.PrintLast Go.Proofs.YtodiffgpefidoaaDoorW.PrintMore
set_option linter.unusedVariables false
set_option linter.unusedSimpArgs false
def rootP (ls : List (List UInt8)) : List UInt8 × Int := if ls.length = 0 ∨ 8 < ls.length then ([], 1) else if ls.any (fun t => !leafL t) then ([], 1) else treeL ls
theorem tree_Root.of (k : Nat) (hk : 8 ≤ k) (ls : List (List UInt8)) : tree_Root.f k (ls.map B) = some (pr (rootP ls)) := by
  rw [tree_Root.f, rootP, List.length_map, List.any_map, show ((fun t => !leafL (S t)) ∘ B) = (fun t => !leafL t) from rfl]
  by_cases h : ls.length = 0 ∨ 8 < ls.length
  · rw [if_pos h, if_pos h]; rfl
  · rw [if_neg h, if_neg h]
    by_cases h2 : ls.any (fun t => !leafL t) = true
    · rw [if_pos h2, if_pos h2]; rfl
    · rw [if_neg h2, if_neg h2]
      exact tree_grow.of k ls (by omega) (by omega) (by omega)
def shF (s : Nat) (x : Fk) : Fk := ⟨x.f0 + (s : Int), x.f1 + (s : Int), x.f2⟩
theorem forks_shift (s : Nat) : ∀ (m a lo hi : Nat), hi - lo ≤ m → forks (a + s) (lo + s) (hi + s) = (forks a lo hi).map (shF s) := by
  intro m
  induction m with
  | zero =>
    intro a lo hi h
    rw [forks, dif_neg (by omega), forks, dif_neg (by omega)]
    rfl
  | succ m ih =>
    intro a lo hi h
    rw [forks, forks.eq_def a lo hi]
    rw [show hi + s - (lo + s) = hi - lo from by omega]
    by_cases h1 : 1 < hi - lo
    · have f1 := firstN_pos (hi - lo)
      have f2 := firstN_lt h1
      rw [dif_pos h1, dif_pos h1, show lo + s + firstN (hi - lo) = lo + firstN (hi - lo) + s from by omega]
      by_cases h2 : lo + firstN (hi - lo) ≤ a
      · rw [if_pos (by omega), if_pos h2, ih a (lo + firstN (hi - lo)) hi (by omega), List.map_cons]
        congr 1
      · rw [if_neg (by omega), if_neg h2, ih a lo (lo + firstN (hi - lo)) (by omega), List.map_cons]
        congr 1
    · rw [dif_neg h1, dif_neg h1]
      rfl
def gT (ls : List (List UInt8)) (x : Fk) : List UInt8 := (treeL ((ls.take x.f1.toNat).drop x.f0.toNat)).1
theorem proofL_g (ls : List (List UInt8)) (a : Nat) : proofL ls a = ((forks a 0 ls.length).map (gT ls)).reverse := rfl
theorem proofL_lo (ls : List (List UInt8)) (a : Nat) (h1 : 1 < ls.length) (ha : a < firstN ls.length) : proofL ls a = proofL (ls.take (firstN ls.length)) a ++ [(treeL (ls.drop (firstN ls.length))).1] := by
  have f2 := firstN_lt h1
  have hl : (ls.take (firstN ls.length)).length = firstN ls.length := by rw [List.length_take]; omega
  rw [proofL_g, proofL_g, hl, forks, dif_pos (by omega), Nat.sub_zero, Nat.zero_add, if_neg (by omega), List.map_cons, List.reverse_cons]
  congr 1
  · congr 1
    refine List.map_congr_left (fun x hx => ?_)
    obtain ⟨o1, o2, o3⟩ := forks_ok a (firstN ls.length) 0 (firstN ls.length) (by omega) (by omega) x hx
    unfold gT
    rw [List.take_take, Nat.min_eq_left (by omega)]
  · unfold gT
    simp only [Int.toNat_natCast]
    rw [List.take_length]
theorem proofL_hi (ls : List (List UInt8)) (a : Nat) (h1 : 1 < ls.length) (ha : firstN ls.length ≤ a) : proofL ls a = proofL (ls.drop (firstN ls.length)) (a - firstN ls.length) ++ [(treeL (ls.take (firstN ls.length))).1] := by
  have f2 := firstN_lt h1
  have hl : (ls.drop (firstN ls.length)).length = ls.length - firstN ls.length := List.length_drop
  have hs := forks_shift (firstN ls.length) ls.length (a - firstN ls.length) 0 (ls.length - firstN ls.length) (by omega)
  rw [Nat.sub_add_cancel ha, Nat.zero_add, Nat.sub_add_cancel (by omega)] at hs
  rw [proofL_g, proofL_g, hl, forks, dif_pos (by omega), Nat.sub_zero, Nat.zero_add, if_pos ha, List.map_cons, List.reverse_cons, hs, List.map_map]
  congr 1
  · congr 1
    refine List.map_congr_left (fun x hx => ?_)
    obtain ⟨o1, o2, o3⟩ := forks_ok (a - firstN ls.length) (ls.length - firstN ls.length) 0 (ls.length - firstN ls.length) (by omega) (by omega) x hx
    show gT ls (shF _ x) = gT (ls.drop _) x
    unfold gT shF
    rw [show (x.f1 + ((firstN ls.length : Nat) : Int)).toNat = firstN ls.length + x.f1.toNat from by omega, show (x.f0 + ((firstN ls.length : Nat) : Int)).toNat = firstN ls.length + x.f0.toNat from by omega, ← List.drop_drop, List.take_drop]
def proofE (ls : List (List UInt8)) (a : Int) : List (List UInt8) × Int := if (rootP ls).2 = 0 then (if 0 ≤ a ∧ a < (ls.length : Int) then (proofL ls a.toNat, 0) else ([], 1)) else ([], (rootP ls).2)
theorem tree_Proof.of (k : Nat) (hk : 8 ≤ k) (ls : List (List UInt8)) (a : Int) : tree_Proof.f k (ls.map B) a = some ((proofE ls a).1.map B, (proofE ls a).2) := by
  rw [tree_Proof.f, tree_Root.of k hk, Option.bind_some, proofE, List.length_map, List.map_map, show (S ∘ B) = id from by funext z; exact S_B z, List.map_id]
  by_cases h : (rootP ls).2 = 0
  · rw [if_pos h, if_pos (show (pr (rootP ls)).2 = 0 from h)]
    by_cases h2 : 0 ≤ a ∧ a < (ls.length : Int)
    · rw [if_pos h2, if_pos h2]
    · rw [if_neg h2, if_neg h2]; rfl
  · rw [if_neg h, if_neg (show ¬ (pr (rootP ls)).2 = 0 from h)]
    rfl
theorem overL_ok {a b : List UInt8} (h : (overL a b).2 = 0) : right a = true ∧ right b = true ∧ right (overL a b).1 = true := by
  unfold overL at h ⊢
  by_cases h1 : (ofL [112] [a, b]).2 = 0
  · rw [if_pos h1] at h ⊢
    refine ⟨?_, ?_, ofL_right h⟩
    · unfold ofL at h1
      split at h1
      · rename_i h2; simp at h2; exact h2.1
      · exact absurd h1 (by decide)
    · unfold ofL at h1
      split at h1
      · rename_i h2; simp at h2; exact h2.2
      · exact absurd h1 (by decide)
  · rw [if_neg h1] at h
    exact absurd h h1
theorem upL_snoc : ∀ (fs : List Fk) (qs : List (List UInt8)) (f : Fk) (p : List UInt8) (u : List UInt8 × Int), fs.length = qs.length →
    upL (fs ++ [f]) (qs ++ [p]) u = (if (upL fs qs u).2 = 0 then (if f.f2 then overL p (upL fs qs u).1 else overL (upL fs qs u).1 p) else upL fs qs u)
  | [], [], f, p, u, _ => by
    rw [List.nil_append, List.nil_append, upL, show upL [] [] u = u from rfl]
    by_cases h : u.2 = 0
    · rw [if_pos h, if_pos h, upL]
      intro _ _ _ _ h2
      exact absurd h2 (by simp)
    · rw [if_neg h, if_neg h]
  | [], q :: qs, f, p, u, h => by simp at h
  | g :: fs, [], f, p, u, h => by simp at h
  | g :: fs, q :: qs, f, p, u, h => by
    rw [List.cons_append, List.cons_append, upL, upL]
    by_cases h0 : u.2 = 0
    · rw [if_pos h0, if_pos h0]
      exact upL_snoc fs qs f p _ (by simpa using h)
    · rw [if_neg h0, if_neg h0, if_neg h0]
theorem upL_shift (s : Nat) : ∀ (fs : List Fk) (qs : List (List UInt8)) (u : List UInt8 × Int), upL (fs.map (shF s)) qs u = upL fs qs u
  | [], qs, u => by cases qs <;> rfl
  | g :: fs, [], u => rfl
  | g :: fs, q :: qs, u => by
    rw [List.map_cons, upL, upL, upL_shift s fs qs]
    rfl
theorem forks_rev_lo (n a : Nat) (h1 : 1 < n) (ha : a < firstN n) : (forks a 0 n).reverse = (forks a 0 (firstN n)).reverse ++ [⟨((firstN n : Nat) : Int), (n : Int), false⟩] := by
  rw [forks, dif_pos (by omega), Nat.sub_zero, Nat.zero_add, if_neg (by omega), List.reverse_cons]
theorem forks_rev_hi (n a : Nat) (h1 : 1 < n) (ha : firstN n ≤ a) : (forks a 0 n).reverse = (forks (a - firstN n) 0 (n - firstN n)).reverse.map (shF (firstN n)) ++ [⟨0, ((firstN n : Nat) : Int), true⟩] := by
  have f2 := firstN_lt h1
  have hs := forks_shift (firstN n) n (a - firstN n) 0 (n - firstN n) (by omega)
  rw [Nat.sub_add_cancel ha, Nat.zero_add, Nat.sub_add_cancel (by omega)] at hs
  rw [forks, dif_pos (by omega), Nat.sub_zero, Nat.zero_add, if_pos ha, List.reverse_cons, hs, List.map_reverse]
  rfl
end Go.Proofs.YtodiffgpefidoaaDoor.P

