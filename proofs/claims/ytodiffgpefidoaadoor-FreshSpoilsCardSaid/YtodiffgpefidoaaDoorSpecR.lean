/- Slimmed by wip/slim.py. -/
import Derived.Test.YtodiffgpefidoaaDoorSpecN
namespace Go.Proofs.YtodiffgpefidoaaDoor.P
set_option linter.unusedVariables false
set_option linter.unusedSimpArgs false
theorem takeTextL_textL (t r : List UInt8) (most : Int) (ht : t.length < 18446744073709551616) :
    takeTextL (textL t ++ r) most = if most < (t.length : Int) ∧ 0 < t.length then ([], [], 10) else (t, r, 0) := by
  unfold takeTextL textL
  rw [List.append_assoc, takeL_encN _ _ ht]
  simp only
  split
  · rfl
  · rw [if_neg (by rw [List.length_append]; omega), List.take_left, List.drop_left]
theorem takeTextL_some (s : List UInt8) (most : Int) (h : (takeTextL s most).2.2 = 0) : s = textL (takeTextL s most).1 ++ (takeTextL s most).2.1 ∧ (takeTextL s most).1.length < 18446744073709551616 ∧ ((takeTextL s most).1.length : Int) ≤ (if 0 ≤ most then most else 0) := by
  revert h
  unfold takeTextL
  cases ht : takeL s with
  | none => intro h; simp at h
  | some p =>
    obtain ⟨n, r⟩ := p
    obtain ⟨rfl, hn⟩ := takeL_some s n r ht
    simp only
    split
    · intro h; simp at h
    · split
      · intro h; simp at h
      · intro _
        simp only
        have hl : (List.take n r).length = n := by rw [List.length_take]; omega
        unfold textL
        rw [hl, List.append_assoc, List.take_append_drop]
        exact ⟨rfl, hn, by split <;> omega⟩
theorem takeTextL_err (s : List UInt8) (most : Int) (h : (takeTextL s most).2.2 ≠ 0) : (takeTextL s most).1 = [] ∧ (takeTextL s most).2.1 = [] := by
  revert h
  unfold takeTextL
  cases ht : takeL s with
  | none => intro h; exact ⟨rfl, rfl⟩
  | some p =>
    simp only
    split
    · intro h; exact ⟨rfl, rfl⟩
    · split
      · intro h; exact ⟨rfl, rfl⟩
      · intro h; exact absurd rfl h
theorem takeRowL_put (most : Int) : ∀ (l : List (List UInt8)) (r : List UInt8), (∀ x ∈ l, (x.length : Int) ≤ most ∧ x.length < 18446744073709551616) →
    takeRowL most l.length ((l.map textL).flatten ++ r) = if r = [] then (l, 0) else ([], 2)
  | [], r, _ => by
    unfold takeRowL
    simp
  | x :: l, r, h => by
    have hx := h x List.mem_cons_self
    have T := takeTextL_textL x ((l.map textL).flatten ++ r) most hx.2
    rw [if_neg (by omega)] at T
    have ih := takeRowL_put most l r (fun y hy => h y (List.mem_cons_of_mem _ hy))
    rw [List.map_cons, List.flatten_cons, List.append_assoc, List.length_cons, takeRowL, T]
    simp only
    rw [if_pos trivial, ih]
    by_cases hr : r = []
    · rw [if_pos hr, if_pos hr]; simp
    · rw [if_neg hr, if_neg hr]; simp
theorem takeAllL_put (l : List (List UInt8)) (r : List UInt8) (most : Int) (hl : l.length < 18446744073709551616) (h : ∀ x ∈ l, (x.length : Int) ≤ most ∧ x.length < 18446744073709551616) :
    takeAllL (rowL l ++ r) l.length most = if r = [] then (l, 0) else ([], 2) := by
  unfold takeAllL rowL
  rw [List.append_assoc, takeL_encN _ _ hl]
  simp only
  rw [if_neg (by omega), takeRowL_put most l r h]
theorem takeRowL_some (most : Int) : ∀ (n : Nat) (r : List UInt8), (takeRowL most n r).2 = 0 → r = ((takeRowL most n r).1.map textL).flatten ∧ (takeRowL most n r).1.length = n := by
  intro n
  induction n with
  | zero =>
    intro r h
    unfold takeRowL at h ⊢
    split
    · rename_i e; subst e; exact ⟨rfl, rfl⟩
    · rename_i e; rw [if_neg e] at h; simp at h
  | succ n ih =>
    intro r h
    rw [takeRowL] at h ⊢
    split at h
    · rename_i h1
      split at h
      · rename_i h2
        rw [if_pos h1, if_pos h2]
        obtain ⟨e1, e2, _⟩ := takeTextL_some r most h1
        obtain ⟨e3, e4⟩ := ih _ h2
        simp only [List.map_cons, List.flatten_cons, List.length_cons]
        exact ⟨by rw [← e3]; exact e1, by rw [e4]⟩
      · rename_i h2; exact absurd h h2
    · rename_i h1; exact absurd h h1
theorem takeAllL_some (s : List UInt8) (many most : Int) (h : (takeAllL s many most).2 = 0) : rowL (takeAllL s many most).1 = s := by
  revert h
  unfold takeAllL
  cases ht : takeL s with
  | none => intro h; simp at h
  | some p =>
    obtain ⟨n, r⟩ := p
    obtain ⟨rfl, hn⟩ := takeL_some s n r ht
    simp only
    split
    · intro h; simp at h
    · intro h
      obtain ⟨e1, e2⟩ := takeRowL_some most n r h
      unfold rowL
      rw [e2, ← e1]
end Go.Proofs.YtodiffgpefidoaaDoor.P

