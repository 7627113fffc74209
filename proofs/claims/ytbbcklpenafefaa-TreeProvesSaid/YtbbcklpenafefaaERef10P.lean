/- Plain facts on trees, forks and proofs (cut out of XERef10.lean by cutfor.py: without the reference). -/
import Derived.Test.YtbbcklpenafefaaELaw10
namespace Go.Proofs.Ytbbcklpenafefaa.P
open Go.RowKit Go.Proofs.YtbbcklpenafefaaW.PrintWords Go.Proofs.YtbbcklpenafefaaW.PrintLast Go.Proofs.YtbbcklpenafefaaW.PrintMore
set_option linter.unusedVariables false
set_option linter.unusedSimpArgs false
/-- A term taken off is the term that it begins with. -/
theorem tlen_take : ∀ (d : Nat) (l : List UInt8), tlen d l ≠ 0 → tlen d (l.take (tlen d l)) = tlen d l := by
  intro d
  induction d with
  | zero => intro l h; exact absurd rfl h
  | succ d ih =>
    intro l h
    cases l with
    | nil => exact absurd rfl h
    | cons c r =>
      by_cases h97 : c = 97
      · have e : ∀ x : List UInt8, tlen (d + 1) (c :: x) = (match takeL x with | none => 0 | some p => 1 + x.length - p.2.length) := by intro x; rw [tlen, if_pos h97]; cases takeL x <;> rfl
        rw [e] at h
        cases ht : takeL r with
        | none => rw [ht] at h; exact absurd rfl h
        | some p =>
          obtain ⟨n, q⟩ := p
          obtain ⟨hr, hn⟩ := takeL_some r n q ht
          have hm : tlen (d + 1) (c :: r) = (encN n).length + 1 := by
            rw [e, ht]
            show 1 + r.length - q.length = _
            rw [hr, List.length_append]; omega
          have h2 := takeL_encN n [] hn
          rw [List.append_nil] at h2
          rw [hm, List.take_succ_cons, hr, List.take_left, e, h2]
          show 1 + (encN n).length - 0 = _
          omega
      · by_cases h116 : c = 116
        · have e : ∀ x : List UInt8, tlen (d + 1) (c :: x) = (if (takeTextL x 4000).2.2 = 0 then 1 + x.length - (takeTextL x 4000).2.1.length else 0) := by intro x; rw [tlen, if_neg h97, if_pos h116]
          rw [e] at h
          by_cases hz : (takeTextL r 4000).2.2 = 0
          · obtain ⟨hr, hn, hb⟩ := takeTextL_some r 4000 hz
            have hm : tlen (d + 1) (c :: r) = (textL (takeTextL r 4000).1).length + 1 := by
              rw [e, if_pos hz]
              have hl : r.length = (textL (takeTextL r 4000).1).length + (takeTextL r 4000).2.1.length := (congrArg List.length hr).trans List.length_append
              omega
            have hx : r.take (textL (takeTextL r 4000).1).length = textL (takeTextL r 4000).1 := by
              have h3 : r.take (textL (takeTextL r 4000).1).length = (textL (takeTextL r 4000).1 ++ (takeTextL r 4000).2.1).take (textL (takeTextL r 4000).1).length := congrArg _ hr
              rw [h3, List.take_left]
            have h2 := takeTextL_textL (takeTextL r 4000).1 [] 4000 hn
            rw [List.append_nil, if_neg (by rw [if_pos (by decide)] at hb; omega)] at h2
            rw [hm, List.take_succ_cons, hx, e, h2, if_pos rfl]
            show 1 + (textL (takeTextL r 4000).1).length - 0 = _
            omega
          · rw [if_neg hz] at h; exact absurd rfl h
        · by_cases g2 : c = 104 ∨ c = 117
          · rw [tlen_one g2] at h ⊢
            have hne : tlen d r ≠ 0 := by intro e; rw [if_pos e] at h; exact h rfl
            rw [if_neg hne, Nat.add_comm 1 (tlen d r), List.take_succ_cons, tlen_one g2, ih r hne, if_neg hne, Nat.add_comm]
          · by_cases g3 : c = 112 ∨ c = 115 ∨ c = 98 ∨ c = 103
            · rw [tlen_two g3] at h ⊢
              have hb : ¬ (c = 98 ∧ r.getD 0 0 ≠ 117) := by intro e; rw [if_pos e] at h; exact h rfl
              rw [if_neg hb] at h ⊢
              have hne : tlen d r ≠ 0 := by intro e; rw [if_pos e] at h; exact h rfl
              rw [if_neg hne] at h ⊢
              have hne2 : tlen d (r.drop (tlen d r)) ≠ 0 := by intro e; rw [if_pos e] at h; exact h rfl
              rw [if_neg hne2] at h ⊢
              have hle := tlen_le d r
              have hsp : r.take (tlen d r + tlen d (r.drop (tlen d r))) = r.take (tlen d r) ++ (r.drop (tlen d r)).take (tlen d (r.drop (tlen d r))) := List.take_add
              have i1 := ih r hne
              have i2 := ih _ hne2
              have a1 : tlen d (r.take (tlen d r + tlen d (r.drop (tlen d r)))) = tlen d r := by
                rw [hsp, tlen_append d _ _ (by rw [i1]; exact hne), i1]
              have a2 : (r.take (tlen d r + tlen d (r.drop (tlen d r)))).drop (tlen d r) = (r.drop (tlen d r)).take (tlen d (r.drop (tlen d r))) := by
                rw [hsp, List.drop_append_of_le_length (by rw [List.length_take]; omega), List.drop_take, Nat.sub_self, List.take_zero, List.nil_append]
              have a3 : (r.take (tlen d r + tlen d (r.drop (tlen d r)))).getD 0 0 = r.getD 0 0 := by
                cases r with
                | nil => exact absurd (tlen_nil d) hne
                | cons x y =>
                  obtain ⟨n, hn⟩ : ∃ n, tlen d (x :: y) + tlen d ((x :: y).drop (tlen d (x :: y))) = n + 1 := ⟨tlen d (x :: y) + tlen d ((x :: y).drop (tlen d (x :: y))) - 1, by omega⟩
                  rw [hn, List.take_succ_cons]; rfl
              rw [show 1 + tlen d r + tlen d (r.drop (tlen d r)) = (tlen d r + tlen d (r.drop (tlen d r))) + 1 from by omega, List.take_succ_cons, tlen_two g3, a3, if_neg hb, a1, if_neg hne, a2, i2, if_neg hne2]
              omega
            · exfalso
              rw [tlen, if_neg h97, if_neg h116, if_neg g2, if_neg g3] at h
              exact h rfl
theorem right_more {p : List UInt8} (h : tlen 39 p = p.length) (h0 : tlen 39 p ≠ 0) (hl : p.length ≤ 4000) : right p = true := by
  refine (right_iff _).mpr ⟨by intro e; rw [e] at h0; exact h0 (tlen_nil 39), hl, ?_⟩
  rw [tlen_more 39 p h0, h]
/-- The parts of a right term are right, and together with its kind they are the term; what has no parts is an atom or a text. -/
theorem parts_right {c : UInt8} {r : List UInt8} (h : right (c :: r) = true) : (∀ p ∈ partsL (c :: r), right p = true) ∧ ((partsL (c :: r)).length > 0 → (partsL (c :: r)).flatten = r) ∧ (partsL (c :: r)).length ≤ 2 := by
  obtain ⟨-, hl, htl⟩ := (right_iff _).mp h
  rw [List.length_cons] at hl htl
  by_cases g2 : c = 104 ∨ c = 117
  · rw [tlen_one g2] at htl
    have hne : tlen 39 r ≠ 0 := by intro e; rw [if_pos e] at htl; omega
    rw [if_neg hne] at htl
    have hp : partsL (c :: r) = [r] := by unfold partsL; rw [if_pos (by simpa using g2)]; rfl
    rw [hp]
    refine ⟨?_, by simp, by simp⟩
    intro p hp
    rw [List.mem_singleton.mp hp]
    exact right_more (by omega) hne (by omega)
  · by_cases g3 : c = 112 ∨ c = 115 ∨ c = 98 ∨ c = 103
    · rw [tlen_two g3] at htl
      have hp : partsL (c :: r) = [r.take (tlen 40 r), r.drop (tlen 40 r)] := by unfold partsL; rw [if_neg (by simpa using g2), if_pos (by simpa using g3)]; rfl
      rw [hp]
      split at htl
      · omega
      · have hne : tlen 39 r ≠ 0 := by intro e; rw [if_pos e] at htl; omega
        rw [if_neg hne] at htl
        have hne2 : tlen 39 (r.drop (tlen 39 r)) ≠ 0 := by intro e; rw [if_pos e] at htl; omega
        rw [if_neg hne2] at htl
        have e40 : tlen 40 r = tlen 39 r := tlen_more 39 r hne
        have hle := tlen_le 39 r
        refine ⟨?_, by intro _; simp, by simp⟩
        intro p hp
        rw [e40] at hp
        rcases List.mem_cons.mp hp with h | h
        · rw [h]
          have ht := tlen_take 39 r hne
          exact right_more (by rw [ht, List.length_take]; omega) (by rw [ht]; exact hne) (by rw [List.length_take]; omega)
        · rw [List.mem_singleton.mp h]
          exact right_more (by rw [List.length_drop]; omega) hne2 (by rw [List.length_drop]; omega)
    · have hp : partsL (c :: r) = [] := by unfold partsL; rw [if_neg (by simpa using g2), if_neg (by simpa using g3)]
      rw [hp]
      exact ⟨by simp, by simp, by simp⟩

/-! ### the reference of chapter 10 -/
theorem overL_len (a b : List UInt8) : (overL a b).1.length ≤ 4000 := by
  unfold overL
  split
  · exact ofL_len _ _
  · simp
theorem treeL_len (ls : List (List UInt8)) : (treeL ls).1.length ≤ 4000 := by
  rw [treeL]
  split
  · split
    · split
      · exact overL_len _ _
      · simp
    · simp
  · exact ofL_len _ _
/-- The tree of any leaves, or what is wrong. -/
def rootL (ls : List (List UInt8)) : List UInt8 × Int := if ls.length = 0 ∨ 8 < ls.length then ([], 1) else if ls.any (fun t => !leafL t) then ([], 1) else treeL ls
theorem tree_Root.of (k : Nat) (hk : 8 ≤ k) (ls : List (List UInt8)) : tree_Root.f k (ls.map B) = some (pr (rootL ls)) := by
  rw [tree_Root.f, rootL, List.length_map, List.any_map, show ((fun t => !leafL (S t)) ∘ B) = (fun t => !leafL t) from rfl]
  by_cases h : ls.length = 0 ∨ 8 < ls.length
  · rw [if_pos h, if_pos h]; rfl
  · rw [if_neg h, if_neg h]
    by_cases h2 : ls.any (fun t => !leafL t) = true
    · rw [if_pos h2, if_pos h2]; rfl
    · rw [if_neg h2, if_neg h2]
      exact tree_grow.of k ls (by omega) (by omega) (by omega)
/-! ### proofs -/
def shF (s : Nat) (x : Fk) : Fk := ⟨x.f0 + (s : Int), x.f1 + (s : Int), x.f2⟩
theorem forks_shift (s : Nat) : ∀ (m a lo hi : Nat), hi - lo ≤ m → forks (a + s) (lo + s) (hi + s) = (forks a lo hi).map (shF s) := by
  intro m
  induction m with
  | zero =>
    intro a lo hi h
    rw [forks, dif_neg (by omega), forks, dif_neg (by omega)]
    rfl
  | succ m ih =>
    intro a lo hi h
    rw [forks, forks.eq_def a lo hi]
    rw [show hi + s - (lo + s) = hi - lo from by omega]
    by_cases h1 : 1 < hi - lo
    · have f1 := firstN_pos (hi - lo)
      have f2 := firstN_lt h1
      rw [dif_pos h1, dif_pos h1, show lo + s + firstN (hi - lo) = lo + firstN (hi - lo) + s from by omega]
      by_cases h2 : lo + firstN (hi - lo) ≤ a
      · rw [if_pos (by omega), if_pos h2, ih a (lo + firstN (hi - lo)) hi (by omega), List.map_cons]
        congr 1
      · rw [if_neg (by omega), if_neg h2, ih a lo (lo + firstN (hi - lo)) (by omega), List.map_cons]
        congr 1
    · rw [dif_neg h1, dif_neg h1]
      rfl
def gT (ls : List (List UInt8)) (x : Fk) : List UInt8 := (treeL ((ls.take x.f1.toNat).drop x.f0.toNat)).1
theorem proofL_g (ls : List (List UInt8)) (a : Nat) : proofL ls a = ((forks a 0 ls.length).map (gT ls)).reverse := rfl
theorem proofL_lo (ls : List (List UInt8)) (a : Nat) (h1 : 1 < ls.length) (ha : a < firstN ls.length) : proofL ls a = proofL (ls.take (firstN ls.length)) a ++ [(treeL (ls.drop (firstN ls.length))).1] := by
  have f2 := firstN_lt h1
  have hl : (ls.take (firstN ls.length)).length = firstN ls.length := by rw [List.length_take]; omega
  rw [proofL_g, proofL_g, hl, forks, dif_pos (by omega), Nat.sub_zero, Nat.zero_add, if_neg (by omega), List.map_cons, List.reverse_cons]
  congr 1
  · congr 1
    refine List.map_congr_left (fun x hx => ?_)
    obtain ⟨o1, o2, o3⟩ := forks_ok a (firstN ls.length) 0 (firstN ls.length) (by omega) (by omega) x hx
    unfold gT
    rw [List.take_take, Nat.min_eq_left (by omega)]
  · unfold gT
    simp only [Int.toNat_natCast]
    rw [List.take_length]
theorem proofL_hi (ls : List (List UInt8)) (a : Nat) (h1 : 1 < ls.length) (ha : firstN ls.length ≤ a) : proofL ls a = proofL (ls.drop (firstN ls.length)) (a - firstN ls.length) ++ [(treeL (ls.take (firstN ls.length))).1] := by
  have f2 := firstN_lt h1
  have hl : (ls.drop (firstN ls.length)).length = ls.length - firstN ls.length := List.length_drop
  have hs := forks_shift (firstN ls.length) ls.length (a - firstN ls.length) 0 (ls.length - firstN ls.length) (by omega)
  rw [Nat.sub_add_cancel ha, Nat.zero_add, Nat.sub_add_cancel (by omega)] at hs
  rw [proofL_g, proofL_g, hl, forks, dif_pos (by omega), Nat.sub_zero, Nat.zero_add, if_pos ha, List.map_cons, List.reverse_cons, hs, List.map_map]
  congr 1
  · congr 1
    refine List.map_congr_left (fun x hx => ?_)
    obtain ⟨o1, o2, o3⟩ := forks_ok (a - firstN ls.length) (ls.length - firstN ls.length) 0 (ls.length - firstN ls.length) (by omega) (by omega) x hx
    show gT ls (shF _ x) = gT (ls.drop _) x
    unfold gT shF
    rw [show (x.f1 + ((firstN ls.length : Nat) : Int)).toNat = firstN ls.length + x.f1.toNat from by omega, show (x.f0 + ((firstN ls.length : Nat) : Int)).toNat = firstN ls.length + x.f0.toNat from by omega, ← List.drop_drop, List.take_drop]
/-- The proof of a leaf, or what is wrong. -/
def proofE (ls : List (List UInt8)) (a : Int) : List (List UInt8) × Int := if (rootL ls).2 = 0 then (if 0 ≤ a ∧ a < (ls.length : Int) then (proofL ls a.toNat, 0) else ([], 1)) else ([], (rootL ls).2)
theorem tree_Proof.of (k : Nat) (hk : 8 ≤ k) (ls : List (List UInt8)) (a : Int) : tree_Proof.f k (ls.map B) a = some ((proofE ls a).1.map B, (proofE ls a).2) := by
  rw [tree_Proof.f, tree_Root.of k hk, Option.bind_some, proofE, List.length_map, List.map_map, show (S ∘ B) = id from by funext z; exact S_B z, List.map_id]
  by_cases h : (rootL ls).2 = 0
  · rw [if_pos h, if_pos (show (pr (rootL ls)).2 = 0 from h)]
    by_cases h2 : 0 ≤ a ∧ a < (ls.length : Int)
    · rw [if_pos h2, if_pos h2]
    · rw [if_neg h2, if_neg h2]; rfl
  · rw [if_neg h, if_neg (show ¬ (pr (rootL ls)).2 = 0 from h)]
    rfl
theorem rootL_ok {ls : List (List UInt8)} (h : (rootL ls).2 = 0) : 1 ≤ ls.length ∧ ls.length ≤ 8 := by
  unfold rootL at h
  by_cases hc : ls.length = 0 ∨ 8 < ls.length
  · rw [if_pos hc] at h; exact absurd h (by decide)
  · omega
/-! ### what is put together of a proof -/
theorem ofL_bad {k : List UInt8} {ls : List (List UInt8)} (h : ¬ (ofL k ls).2 = 0) : (ofL k ls).1 = [] := by
  unfold ofL at h ⊢
  split at h
  · rename_i h1
    rw [if_pos h1]
    split at h
    · exact absurd rfl h
    · rename_i h2; rw [if_neg h2]
  · rename_i h1
    rw [if_neg h1]
theorem overL_bad {a b : List UInt8} (h : ¬ (overL a b).2 = 0) : (overL a b).1 = [] := by
  unfold overL at h ⊢
  by_cases h1 : (ofL [112] [a, b]).2 = 0
  · rw [if_pos h1] at h ⊢
    exact ofL_bad h
  · rw [if_neg h1]
theorem overL_ok {a b : List UInt8} (h : (overL a b).2 = 0) : right a = true ∧ right b = true ∧ right (overL a b).1 = true := by
  unfold overL at h ⊢
  by_cases h1 : (ofL [112] [a, b]).2 = 0
  · rw [if_pos h1] at h ⊢
    refine ⟨?_, ?_, ofL_right h⟩
    · unfold ofL at h1
      split at h1
      · rename_i h2; simp at h2; exact h2.1
      · exact absurd h1 (by decide)
    · unfold ofL at h1
      split at h1
      · rename_i h2; simp at h2; exact h2.2
      · exact absurd h1 (by decide)
  · rw [if_neg h1] at h
    exact absurd h h1
theorem overL_nil (a b : List UInt8) (h : a = [] ∨ b = []) : overL a b = ([], 1) := by
  have hr : right [] = false := by unfold right; simp
  have e : ofL [112] [a, b] = ([], 1) := by
    unfold ofL
    rw [if_neg]
    rcases h with rfl | rfl
    · simp [hr]
    · simp [hr]
  rw [overL, e, if_neg (by decide)]
def upR (t : List UInt8) : Nat → Nat → List (List UInt8) → List UInt8
  | many, a, ps =>
    if h : many ≤ 1 then (if ps = [] then (ofL [104] [t]).1 else [])
    else if ps = [] then []
    else if a < firstN many then (overL (upR t (firstN many) a (ps.take (ps.length - 1))) (ps.getD (ps.length - 1) [])).1
    else (overL (ps.getD (ps.length - 1) []) (upR t (many - firstN many) (a - firstN many) (ps.take (ps.length - 1)))).1
termination_by many => many
decreasing_by
  · exact firstN_lt (by omega)
  · have := firstN_pos many; omega
theorem upR_len (t : List UInt8) (many a : Nat) (ps : List (List UInt8)) : (upR t many a ps).length ≤ 4000 := by
  rw [upR]
  split
  · split
    · exact ofL_len _ _
    · simp
  · split
    · simp
    · split
      · exact overL_len _ _
      · exact overL_len _ _
/-! ### a proof goes up the forks -/
theorem upL_snoc : ∀ (fs : List Fk) (qs : List (List UInt8)) (f : Fk) (p : List UInt8) (u : List UInt8 × Int), fs.length = qs.length →
    upL (fs ++ [f]) (qs ++ [p]) u = (if (upL fs qs u).2 = 0 then (if f.f2 then overL p (upL fs qs u).1 else overL (upL fs qs u).1 p) else upL fs qs u)
  | [], [], f, p, u, _ => by
    rw [List.nil_append, List.nil_append, upL, show upL [] [] u = u from rfl]
    by_cases h : u.2 = 0
    · rw [if_pos h, if_pos h, upL]
      intro _ _ _ _ h2
      exact absurd h2 (by simp)
    · rw [if_neg h, if_neg h]
  | [], q :: qs, f, p, u, h => by simp at h
  | g :: fs, [], f, p, u, h => by simp at h
  | g :: fs, q :: qs, f, p, u, h => by
    rw [List.cons_append, List.cons_append, upL, upL]
    by_cases h0 : u.2 = 0
    · rw [if_pos h0, if_pos h0]
      exact upL_snoc fs qs f p _ (by simpa using h)
    · rw [if_neg h0, if_neg h0, if_neg h0]
theorem upL_shift (s : Nat) : ∀ (fs : List Fk) (qs : List (List UInt8)) (u : List UInt8 × Int), upL (fs.map (shF s)) qs u = upL fs qs u
  | [], qs, u => by cases qs <;> rfl
  | g :: fs, [], u => rfl
  | g :: fs, q :: qs, u => by
    rw [List.map_cons, upL, upL, upL_shift s fs qs]
    rfl
/-- The forks of a way, the last one first, in two parts. -/
theorem forks_rev_lo (n a : Nat) (h1 : 1 < n) (ha : a < firstN n) : (forks a 0 n).reverse = (forks a 0 (firstN n)).reverse ++ [⟨((firstN n : Nat) : Int), (n : Int), false⟩] := by
  rw [forks, dif_pos (by omega), Nat.sub_zero, Nat.zero_add, if_neg (by omega), List.reverse_cons]
theorem forks_rev_hi (n a : Nat) (h1 : 1 < n) (ha : firstN n ≤ a) : (forks a 0 n).reverse = (forks (a - firstN n) 0 (n - firstN n)).reverse.map (shF (firstN n)) ++ [⟨0, ((firstN n : Nat) : Int), true⟩] := by
  have f2 := firstN_lt h1
  have hs := forks_shift (firstN n) n (a - firstN n) 0 (n - firstN n) (by omega)
  rw [Nat.sub_add_cancel ha, Nat.zero_add, Nat.sub_add_cancel (by omega)] at hs
  rw [forks, dif_pos (by omega), Nat.sub_zero, Nat.zero_add, if_pos ha, List.reverse_cons, hs, List.map_reverse]
  rfl
theorem take_last {ps : List (List UInt8)} (h : 0 < ps.length) : ps.take (ps.length - 1) ++ [ps.getD (ps.length - 1) []] = ps := by
  have e := List.take_succ_eq_append_getElem (l := ps) (i := ps.length - 1) (by omega)
  rw [show ps.length - 1 + 1 = ps.length from by omega, List.take_length] at e
  rw [List.getD_eq_getElem?_getD, List.getElem?_eq_getElem (by omega)]
  exact e.symm
theorem upL_bad : ∀ (fs : List Fk) (qs : List (List UInt8)) (u : List UInt8 × Int), (¬ u.2 = 0 → u.1 = []) → ¬ (upL fs qs u).2 = 0 → (upL fs qs u).1 = []
  | [], qs, u, hu, h => by
    rw [show upL [] qs u = u from by cases qs <;> rfl] at h ⊢
    exact hu h
  | g :: fs, [], u, hu, h => hu h
  | g :: fs, q :: qs, u, hu, h => by
    rw [upL] at h ⊢
    by_cases h0 : u.2 = 0
    · rw [if_pos h0] at h ⊢
      refine upL_bad fs qs _ ?_ h
      intro h1
      split
      · rename_i h2; rw [if_pos h2] at h1; exact overL_bad h1
      · rename_i h2; rw [if_neg h2] at h1; exact overL_bad h1
    · rw [if_neg h0] at h ⊢
      exact hu h
theorem upR_upL (t : List UInt8) : ∀ (n a : Nat) (ps : List (List UInt8)), 1 ≤ n → a < n → upR t n a ps = if (forks a 0 n).length = ps.length then (upL (forks a 0 n).reverse ps (ofL [104] [t])).1 else [] := by
  intro n
  induction n using Nat.strongRecOn with
  | _ n ih =>
    intro a ps h1 ha
    rw [upR]
    by_cases hn : n ≤ 1
    · obtain rfl : n = 1 := by omega
      rw [dif_pos hn, forks_one]
      by_cases hps : ps = []
      · subst hps; rfl
      · rw [if_neg hps, if_neg (by have := List.length_pos_iff.mpr hps; simp; omega)]
    · have f1 := firstN_pos n
      have f2 : firstN n < n := firstN_lt (by omega)
      have hfl : 0 < (forks a 0 n).length := by rw [forks, dif_pos (by omega)]; split <;> simp
      rw [dif_neg hn]
      by_cases hps : ps = []
      · subst hps
        rw [if_pos rfl, if_neg (by rw [List.length_nil]; omega)]
      · have hpl := List.length_pos_iff.mpr hps
        have htl : (ps.take (ps.length - 1)).length = ps.length - 1 := by rw [List.length_take]; omega
        have hlast := take_last hpl
        have hbad : ∀ (fs : List Fk) (qs : List (List UInt8)), ¬ (upL fs qs (ofL [104] [t])).2 = 0 → (upL fs qs (ofL [104] [t])).1 = [] := fun fs qs => upL_bad fs qs _ ofL_bad
        rw [if_neg hps]
        by_cases hk : a < firstN n
        · have hrev := forks_rev_lo n a (by omega) hk
          have hl2 : (forks a 0 n).length = (forks a 0 (firstN n)).length + 1 := by rw [← List.length_reverse, hrev, List.length_append, List.length_reverse]; rfl
          rw [if_pos hk, ih (firstN n) f2 a (ps.take (ps.length - 1)) (by omega) hk, htl, hl2]
          by_cases he : (forks a 0 (firstN n)).length = ps.length - 1
          · rw [if_pos he, if_pos (by omega), hrev]
            have hs := upL_snoc (forks a 0 (firstN n)).reverse (ps.take (ps.length - 1)) ⟨((firstN n : Nat) : Int), (n : Int), false⟩ (ps.getD (ps.length - 1) []) (ofL [104] [t]) (by rw [List.length_reverse, htl]; exact he)
            rw [hlast] at hs
            rw [hs]
            by_cases h0 : (upL (forks a 0 (firstN n)).reverse (ps.take (ps.length - 1)) (ofL [104] [t])).2 = 0
            · rw [if_pos h0]; rfl
            · rw [if_neg h0, hbad _ _ h0, overL_nil _ _ (Or.inl rfl)]
          · rw [if_neg he, if_neg (by omega), overL_nil _ _ (Or.inl rfl)]
        · have hrev := forks_rev_hi n a (by omega) (by omega)
          have hl2 : (forks a 0 n).length = (forks (a - firstN n) 0 (n - firstN n)).length + 1 := by rw [← List.length_reverse, hrev, List.length_append, List.length_map, List.length_reverse]; rfl
          rw [if_neg hk, ih (n - firstN n) (by omega) (a - firstN n) (ps.take (ps.length - 1)) (by omega) (by omega), htl, hl2]
          by_cases he : (forks (a - firstN n) 0 (n - firstN n)).length = ps.length - 1
          · rw [if_pos he, if_pos (by omega), hrev]
            have hs := upL_snoc ((forks (a - firstN n) 0 (n - firstN n)).reverse.map (shF (firstN n))) (ps.take (ps.length - 1)) ⟨0, ((firstN n : Nat) : Int), true⟩ (ps.getD (ps.length - 1) []) (ofL [104] [t]) (by rw [List.length_map, List.length_reverse, htl]; exact he)
            rw [hlast, upL_shift] at hs
            rw [hs]
            by_cases h0 : (upL (forks (a - firstN n) 0 (n - firstN n)).reverse (ps.take (ps.length - 1)) (ofL [104] [t])).2 = 0
            · rw [if_pos h0]; rfl
            · rw [if_neg h0, hbad _ _ h0, overL_nil _ _ (Or.inr rfl)]
          · rw [if_neg he, if_neg (by omega), overL_nil _ _ (Or.inr rfl)]
theorem upL_right : ∀ (fs : List Fk) (qs : List (List UInt8)) (u : List UInt8 × Int), fs.length = qs.length → (u.2 = 0 → right u.1 = true) → (upL fs qs u).2 = 0 → (∀ q ∈ qs, right q = true) ∧ right (upL fs qs u).1 = true
  | [], [], u, _, hu, h => ⟨by simp, hu h⟩
  | [], q :: qs, u, hl, _, _ => by simp at hl
  | g :: fs, [], u, hl, _, _ => by simp at hl
  | g :: fs, q :: qs, u, hl, hu, h => by
    rw [upL] at h ⊢
    by_cases h0 : u.2 = 0
    · rw [if_pos h0] at h ⊢
      have key : ((if g.f2 then overL q u.1 else overL u.1 q).2 = 0 → right (if g.f2 then overL q u.1 else overL u.1 q).1 = true) := by
        split
        · exact fun h => (overL_ok h).2.2
        · exact fun h => (overL_ok h).2.2
      obtain ⟨r1, r2⟩ := upL_right fs qs _ (by simpa using hl) key h
      refine ⟨?_, r2⟩
      intro x hx
      rcases List.mem_cons.mp hx with rfl | hx
      · have hv : (if g.f2 then overL x u.1 else overL u.1 x).2 = 0 := by
          by_cases hv : (if g.f2 then overL x u.1 else overL u.1 x).2 = 0
          · exact hv
          · rw [upL_err hv] at h
            exact h
        split at hv
        · exact (overL_ok hv).1
        · exact (overL_ok hv).2.1
      · exact r1 x hx
    · rw [if_neg h0] at h
      exact absurd h h0
end Go.Proofs.Ytbbcklpenafefaa.P
