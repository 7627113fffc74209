/- Texts and rows: what was put is taken, with what stands behind it; what is taken was put so; what is cut off is none. Plain lists. -/
import Derived.Test.YtbbcklpenafefaaSpecN
namespace Go.Proofs.Ytbbcklpenafefaa.P
set_option linter.unusedVariables false
set_option linter.unusedSimpArgs false
theorem takeTextL_textL (t r : List UInt8) (most : Int) (ht : t.length < 18446744073709551616) :
    takeTextL (textL t ++ r) most = if most < (t.length : Int) ∧ 0 < t.length then ([], [], 10) else (t, r, 0) := by
  unfold takeTextL textL
  rw [List.append_assoc, takeL_encN _ _ ht]
  simp only
  split
  · rfl
  · rw [if_neg (by rw [List.length_append]; omega), List.take_left, List.drop_left]
theorem takeTextL_some (s : List UInt8) (most : Int) (h : (takeTextL s most).2.2 = 0) : s = textL (takeTextL s most).1 ++ (takeTextL s most).2.1 ∧ (takeTextL s most).1.length < 18446744073709551616 ∧ ((takeTextL s most).1.length : Int) ≤ (if 0 ≤ most then most else 0) := by
  revert h
  unfold takeTextL
  cases ht : takeL s with
  | none => intro h; simp at h
  | some p =>
    obtain ⟨n, r⟩ := p
    obtain ⟨rfl, hn⟩ := takeL_some s n r ht
    simp only
    split
    · intro h; simp at h
    · split
      · intro h; simp at h
      · intro _
        simp only
        have hl : (List.take n r).length = n := by rw [List.length_take]; omega
        unfold textL
        rw [hl, List.append_assoc, List.take_append_drop]
        exact ⟨rfl, hn, by split <;> omega⟩
theorem takeTextL_err (s : List UInt8) (most : Int) (h : (takeTextL s most).2.2 ≠ 0) : (takeTextL s most).1 = [] ∧ (takeTextL s most).2.1 = [] := by
  revert h
  unfold takeTextL
  cases ht : takeL s with
  | none => intro h; exact ⟨rfl, rfl⟩
  | some p =>
    simp only
    split
    · intro h; exact ⟨rfl, rfl⟩
    · split
      · intro h; exact ⟨rfl, rfl⟩
      · intro h; exact absurd rfl h
theorem takeRowL_put (most : Int) : ∀ (l : List (List UInt8)) (r : List UInt8), (∀ x ∈ l, (x.length : Int) ≤ most ∧ x.length < 18446744073709551616) →
    takeRowL most l.length ((l.map textL).flatten ++ r) = if r = [] then (l, 0) else ([], 2)
  | [], r, _ => by
    unfold takeRowL
    simp
  | x :: l, r, h => by
    have hx := h x List.mem_cons_self
    have T := takeTextL_textL x ((l.map textL).flatten ++ r) most hx.2
    rw [if_neg (by omega)] at T
    have ih := takeRowL_put most l r (fun y hy => h y (List.mem_cons_of_mem _ hy))
    rw [List.map_cons, List.flatten_cons, List.append_assoc, List.length_cons, takeRowL, T]
    simp only
    rw [if_pos trivial, ih]
    by_cases hr : r = []
    · rw [if_pos hr, if_pos hr]; simp
    · rw [if_neg hr, if_neg hr]; simp
theorem takeAllL_put (l : List (List UInt8)) (r : List UInt8) (most : Int) (hl : l.length < 18446744073709551616) (h : ∀ x ∈ l, (x.length : Int) ≤ most ∧ x.length < 18446744073709551616) :
    takeAllL (rowL l ++ r) l.length most = if r = [] then (l, 0) else ([], 2) := by
  unfold takeAllL rowL
  rw [List.append_assoc, takeL_encN _ _ hl]
  simp only
  rw [if_neg (by omega), takeRowL_put most l r h]
theorem takeRowL_some (most : Int) : ∀ (n : Nat) (r : List UInt8), (takeRowL most n r).2 = 0 → r = ((takeRowL most n r).1.map textL).flatten ∧ (takeRowL most n r).1.length = n := by
  intro n
  induction n with
  | zero =>
    intro r h
    unfold takeRowL at h ⊢
    split
    · rename_i e; subst e; exact ⟨rfl, rfl⟩
    · rename_i e; rw [if_neg e] at h; simp at h
  | succ n ih =>
    intro r h
    rw [takeRowL] at h ⊢
    split at h
    · rename_i h1
      split at h
      · rename_i h2
        rw [if_pos h1, if_pos h2]
        obtain ⟨e1, e2, _⟩ := takeTextL_some r most h1
        obtain ⟨e3, e4⟩ := ih _ h2
        simp only [List.map_cons, List.flatten_cons, List.length_cons]
        exact ⟨by rw [← e3]; exact e1, by rw [e4]⟩
      · rename_i h2; exact absurd h h2
    · rename_i h1; exact absurd h h1
theorem takeAllL_some (s : List UInt8) (many most : Int) (h : (takeAllL s many most).2 = 0) : rowL (takeAllL s many most).1 = s := by
  revert h
  unfold takeAllL
  cases ht : takeL s with
  | none => intro h; simp at h
  | some p =>
    obtain ⟨n, r⟩ := p
    obtain ⟨rfl, hn⟩ := takeL_some s n r ht
    simp only
    split
    · intro h; simp at h
    · intro h
      obtain ⟨e1, e2⟩ := takeRowL_some most n r h
      unfold rowL
      rw [e2, ← e1]
theorem takeL_cut (n k : Nat) (hn : n < 18446744073709551616) (hk : k < (encN n).length) : takeL ((encN n).take k) = none := by
  cases ht : takeL ((encN n).take k) with
  | none => rfl
  | some p =>
    obtain ⟨m, r⟩ := p
    obtain ⟨e, hm⟩ := takeL_some _ m r ht
    have e2 : encN n = encN m ++ (r ++ (encN n).drop k) := by
      rw [← List.append_assoc, ← e, List.take_append_drop]
    have h1 := takeL_encN n [] hn
    rw [List.append_nil, e2, takeL_encN m _ hm] at h1
    simp only [Option.some.injEq, Prod.mk.injEq, List.append_eq_nil_iff] at h1
    have h2 := congrArg List.length h1.2.2
    rw [List.length_drop, List.length_nil] at h2
    omega
theorem takeTextL_cut (t : List UInt8) (k : Nat) (most : Int) (ht : t.length < 18446744073709551616) (hk : k < (textL t).length) :
    takeTextL ((textL t).take k) most = ([], [], if (encN t.length).length ≤ k ∧ most < (t.length : Int) ∧ 0 < t.length then 10 else 2) := by
  unfold textL at hk ⊢
  rw [List.length_append] at hk
  by_cases h : k < (encN t.length).length
  · rw [List.take_append_of_le_length (by omega)]
    unfold takeTextL
    rw [takeL_cut _ _ ht h, if_neg (by omega)]
  · rw [List.take_append, List.take_of_length_le (by omega)]
    unfold takeTextL
    rw [takeL_encN _ _ ht]
    simp only
    by_cases h2 : most < (t.length : Int) ∧ 0 < t.length
    · rw [if_pos h2, if_pos ⟨by omega, h2⟩]
    · rw [if_neg h2, if_pos (by rw [List.length_take]; omega), if_neg (fun h => h2 h.2)]
end Go.Proofs.Ytbbcklpenafefaa.P
