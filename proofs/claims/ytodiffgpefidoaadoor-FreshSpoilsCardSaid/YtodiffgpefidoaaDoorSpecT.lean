/- Slimmed by wip/slim.py. -/
import Derived.Test.YtodiffgpefidoaaDoorSpecR
namespace Go.Proofs.YtodiffgpefidoaaDoor.P
set_option linter.unusedVariables false
set_option linter.unusedSimpArgs false
def tlen : Nat → List UInt8 → Nat
  | 0, _ => 0
  | _ + 1, [] => 0
  | d + 1, k :: r =>
    if k = 97 then (match takeL r with | none => 0 | some p => 1 + r.length - p.2.length)
    else if k = 116 then (if (takeTextL r 4000).2.2 = 0 then 1 + r.length - (takeTextL r 4000).2.1.length else 0)
    else if k = 104 ∨ k = 117 then (if tlen d r = 0 then 0 else 1 + tlen d r)
    else if k = 112 ∨ k = 115 ∨ k = 98 ∨ k = 103 then
      (if k = 98 ∧ r.getD 0 0 ≠ 117 then 0 else if tlen d r = 0 then 0 else if tlen d (r.drop (tlen d r)) = 0 then 0 else 1 + tlen d r + tlen d (r.drop (tlen d r)))
    else 0
theorem tlen_nil (d : Nat) : tlen d [] = 0 := by cases d <;> rfl
theorem tlen_le : ∀ (d : Nat) (l : List UInt8), tlen d l ≤ l.length := by
  intro d
  induction d with
  | zero => intro l; simp [tlen]
  | succ d ih =>
    intro l
    cases l with
    | nil => simp [tlen]
    | cons k r =>
      have h1 := ih r
      have h2 := ih (r.drop (tlen d r))
      rw [List.length_drop] at h2
      rw [tlen, List.length_cons]
      split
      · split
        · omega
        · omega
      · split
        · split <;> omega
        · split
          · split <;> omega
          · split
            · split
              · omega
              · split
                · omega
                · split <;> omega
            · omega
theorem takeL_append (s : List UInt8) (n : Nat) (q r : List UInt8) (h : takeL s = some (n, q)) : takeL (s ++ r) = some (n, q ++ r) := by
  obtain ⟨rfl, hn⟩ := takeL_some s n q h
  rw [List.append_assoc, takeL_encN n _ hn]
theorem takeTextL_append (s : List UInt8) (most : Int) (r : List UInt8) (h : (takeTextL s most).2.2 = 0) : takeTextL (s ++ r) most = ((takeTextL s most).1, (takeTextL s most).2.1 ++ r, 0) := by
  obtain ⟨e, hl, hb⟩ := takeTextL_some s most h
  have T := takeTextL_textL (takeTextL s most).1 ((takeTextL s most).2.1 ++ r) most hl
  rw [← List.append_assoc, ← e] at T
  rw [T, if_neg (by split at hb <;> omega)]
theorem tlen_append : ∀ (d : Nat) (l r : List UInt8), tlen d l ≠ 0 → tlen d (l ++ r) = tlen d l := by
  intro d
  induction d with
  | zero => intro l r h; exact absurd rfl h
  | succ d ih =>
    intro l r h
    cases l with
    | nil => exact absurd rfl h
    | cons k q =>
      rw [List.cons_append]
      rw [tlen] at h
      rw [tlen, tlen]
      by_cases h1 : k = 97
      · rw [if_pos h1] at h
        rw [if_pos h1, if_pos h1]
        cases ht : takeL q with
        | none => rw [ht] at h; simp at h
        | some p =>
          obtain ⟨n, s⟩ := p
          have hlen := takeL_len q n s ht
          rw [takeL_append q n s r ht]
          simp only [List.length_append]
          omega
      · rw [if_neg h1] at h
        rw [if_neg h1, if_neg h1]
        by_cases h2 : k = 116
        · rw [if_pos h2] at h
          rw [if_pos h2, if_pos h2]
          by_cases h3 : (takeTextL q 4000).2.2 = 0
          · have hlen := takeTextL_len q 4000 h3
            rw [takeTextL_append q 4000 r h3]
            simp only
            rw [if_pos trivial, if_pos h3, List.length_append, List.length_append]
            omega
          · rw [if_neg h3] at h; exact absurd rfl h
        · rw [if_neg h2] at h
          rw [if_neg h2, if_neg h2]
          by_cases h3 : k = 104 ∨ k = 117
          · rw [if_pos h3] at h
            rw [if_pos h3, if_pos h3]
            by_cases h4 : tlen d q = 0
            · rw [if_pos h4] at h; exact absurd rfl h
            · rw [ih q r h4]
          · rw [if_neg h3] at h
            rw [if_neg h3, if_neg h3]
            by_cases h4 : k = 112 ∨ k = 115 ∨ k = 98 ∨ k = 103
            · rw [if_pos h4] at h
              rw [if_pos h4, if_pos h4]
              have hq : q ≠ [] := by
                intro e
                rw [e, tlen_nil] at h
                simp at h
              have hg : (q ++ r).getD 0 0 = q.getD 0 0 := by
                cases q with
                | nil => exact absurd rfl hq
                | cons a q => simp
              rw [hg]
              by_cases h5 : k = 98 ∧ q.getD 0 0 ≠ 117
              · rw [if_pos h5, if_pos h5]
              · rw [if_neg h5] at h
                rw [if_neg h5, if_neg h5]
                by_cases h6 : tlen d q = 0
                · rw [if_pos h6] at h; exact absurd rfl h
                · rw [if_neg h6] at h
                  have hle := tlen_le d q
                  rw [ih q r h6, List.drop_append_of_le_length hle]
                  by_cases h7 : tlen d (q.drop (tlen d q)) = 0
                  · rw [if_pos h7] at h; exact absurd rfl h
                  · rw [ih _ r h7]
            · rw [if_neg h4] at h; exact absurd rfl h
theorem tlen_more : ∀ (d : Nat) (l : List UInt8), tlen d l ≠ 0 → tlen (d + 1) l = tlen d l := by
  intro d
  induction d with
  | zero => intro l h; exact absurd rfl h
  | succ d ih =>
    intro l h
    cases l with
    | nil => exact absurd rfl h
    | cons k q =>
      rw [tlen] at h
      rw [tlen, tlen]
      by_cases h1 : k = 97
      · rw [if_pos h1, if_pos h1]
      · rw [if_neg h1] at h
        rw [if_neg h1, if_neg h1]
        by_cases h2 : k = 116
        · rw [if_pos h2, if_pos h2]
        · rw [if_neg h2] at h
          rw [if_neg h2, if_neg h2]
          by_cases h3 : k = 104 ∨ k = 117
          · rw [if_pos h3] at h
            rw [if_pos h3, if_pos h3]
            by_cases h4 : tlen d q = 0
            · rw [if_pos h4] at h; exact absurd rfl h
            · rw [ih q h4]
          · rw [if_neg h3] at h
            rw [if_neg h3, if_neg h3]
            by_cases h4 : k = 112 ∨ k = 115 ∨ k = 98 ∨ k = 103
            · rw [if_pos h4] at h
              rw [if_pos h4, if_pos h4]
              by_cases h5 : k = 98 ∧ q.getD 0 0 ≠ 117
              · rw [if_pos h5, if_pos h5]
              · rw [if_neg h5] at h
                rw [if_neg h5, if_neg h5]
                by_cases h6 : tlen d q = 0
                · rw [if_pos h6] at h; exact absurd rfl h
                · rw [if_neg h6] at h
                  rw [ih q h6]
                  by_cases h7 : tlen d (q.drop (tlen d q)) = 0
                  · rw [if_pos h7] at h; exact absurd rfl h
                  · rw [ih _ h7]
            · rw [if_neg h4] at h; exact absurd rfl h
def right (l : List UInt8) : Bool := decide (l ≠ [] ∧ l.length ≤ 4000 ∧ tlen 40 l = l.length)
theorem right_iff (l : List UInt8) : right l = true ↔ l ≠ [] ∧ l.length ≤ 4000 ∧ tlen 40 l = l.length := by unfold right; rw [decide_eq_true_iff]
def kindL (l : List UInt8) : UInt8 := if right l then l.getD 0 0 else 0
def partsL (l : List UInt8) : List (List UInt8) :=
  if l.getD 0 0 = 104 ∨ l.getD 0 0 = 117 then [l.tail]
  else if l.getD 0 0 = 112 ∨ l.getD 0 0 = 115 ∨ l.getD 0 0 = 98 ∨ l.getD 0 0 = 103 then [l.tail.take (tlen 40 l.tail), l.tail.drop (tlen 40 l.tail)]
  else []
end Go.Proofs.YtodiffgpefidoaaDoor.P

