/- Slimmed by wip/slim.py. -/
import Derived.Test.YtodiffgpefidoaaDoorSpec
namespace Go.Proofs.YtodiffgpefidoaaDoor.P
open Go.Proofs.YtodiffgpefidoaaDoorW.PrintWords
set_option linter.unusedVariables false
set_option linter.unusedSimpArgs false
def digs (n : Nat) : List UInt8 := if h : n = 0 then [] else digs (n / 256) ++ [UInt8.ofNat (n % 256)]
termination_by n
decreasing_by omega
theorem digs_zero : digs 0 = [] := by rw [digs]; rfl
theorem digs_pos (n : Nat) (h : 0 < n) : digs n = digs (n / 256) ++ [UInt8.ofNat (n % 256)] := by rw [digs]; rw [dif_neg (by omega)]
theorem toNat_ofNat (n : Nat) (h : n < 256) : (UInt8.ofNat n).toNat = n := by simp [UInt8.toNat_ofNat']; omega
theorem numOf_digs : ∀ n : Nat, numOf (digs n) = n := by
  intro n
  induction n using Nat.strongRecOn with
  | _ n ih =>
    rcases Nat.eq_zero_or_pos n with rfl | h
    · rw [digs_zero]; rfl
    · rw [digs_pos n h, numOf_snoc, ih _ (by omega), toNat_ofNat _ (by omega)]
      omega
theorem digs_len : ∀ (j n : Nat), n < 256 ^ j → (digs n).length ≤ j := by
  intro j
  induction j with
  | zero => intro n h; obtain rfl : n = 0 := by simpa using h
            rw [digs_zero]; simp
  | succ j ih =>
    intro n h
    rcases Nat.eq_zero_or_pos n with rfl | hp
    · rw [digs_zero]; simp
    · rw [digs_pos n hp, List.length_append]
      have := ih (n / 256) (by rw [Nat.pow_succ] at h; omega)
      simpa using this
theorem digs_len8 (n : Nat) (h : n < 18446744073709551616) : (digs n).length ≤ 8 := digs_len 8 n (by rw [show (256 : Nat) ^ 8 = 18446744073709551616 from by decide]; exact h)
theorem digs_ne (n : Nat) (h : 0 < n) : digs n ≠ [] := by rw [digs_pos n h]; simp
theorem digs_head : ∀ n : Nat, 0 < n → (digs n).getD 0 0 ≠ 0 := by
  intro n
  induction n using Nat.strongRecOn with
  | _ n ih =>
    intro h
    rw [digs_pos n h]
    rcases Nat.eq_zero_or_pos (n / 256) with h0 | h0
    · rw [h0, digs_zero]
      intro e
      have e2 : (UInt8.ofNat (n % 256)).toNat = 0 := by
        have : UInt8.ofNat (n % 256) = 0 := by simpa using e
        rw [this]; rfl
      rw [toNat_ofNat _ (by omega)] at e2
      omega
    · have := ih (n / 256) (by omega) h0
      have hne := digs_ne _ h0
      cases hd : digs (n / 256) with
      | nil => exact absurd hd hne
      | cons a r => rw [hd] at this; simpa using this
theorem numOf_pos (l : List UInt8) (h : l.getD 0 0 ≠ 0) : 0 < numOf l := by
  have key : ∀ (n : Nat) (l : List UInt8), l.length = n → l.getD 0 0 ≠ 0 → 0 < numOf l := by
    intro n
    induction n with
    | zero => intro l hl h; obtain rfl := List.eq_nil_of_length_eq_zero hl; simp at h
    | succ n ih =>
      intro l hl h
      have hne : l ≠ [] := by intro e; simp [e] at hl
      obtain ⟨m, b, rfl⟩ : ∃ m b, l = m ++ [b] := ⟨l.dropLast, l.getLast hne, (List.dropLast_concat_getLast hne).symm⟩
      rw [numOf_snoc]
      cases m with
      | nil =>
        have hb : b.toNat ≠ 0 := by
          intro e; apply h; simp; exact UInt8.toNat_inj.mp (by simpa using e)
        omega
      | cons a r =>
        have := ih (a :: r) (by simpa using hl) (by simpa using h)
        omega
  exact key _ l rfl h
theorem digs_numOf (l : List UInt8) (h : l = [] ∨ l.getD 0 0 ≠ 0) : digs (numOf l) = l := by
  have key : ∀ (n : Nat) (l : List UInt8), l.length = n → (l = [] ∨ l.getD 0 0 ≠ 0) → digs (numOf l) = l := by
    intro n
    induction n with
    | zero => intro l hl h; obtain rfl := List.eq_nil_of_length_eq_zero hl; exact digs_zero
    | succ n ih =>
      intro l hl h
      have hne : l ≠ [] := by intro e; simp [e] at hl
      have hp := numOf_pos l (h.resolve_left hne)
      obtain ⟨m, b, rfl⟩ : ∃ m b, l = m ++ [b] := ⟨l.dropLast, l.getLast hne, (List.dropLast_concat_getLast hne).symm⟩
      have hb := b.toNat_lt
      have hm : m = [] ∨ m.getD 0 0 ≠ 0 := by
        cases m with
        | nil => exact .inl rfl
        | cons a r => exact .inr (by simpa using h)
      rw [digs_pos _ hp, numOf_snoc, show (256 * numOf m + b.toNat) / 256 = numOf m from by omega, show (256 * numOf m + b.toNat) % 256 = b.toNat from by omega, ih m (by simpa using hl) hm]
      simp
  exact key _ l rfl h
def encN (n : Nat) : List UInt8 := UInt8.ofNat (digs n).length :: digs n
def textL (t : List UInt8) : List UInt8 := encN t.length ++ t
def rowL (l : List (List UInt8)) : List UInt8 := encN l.length ++ (l.map textL).flatten
theorem takeL_encN (n : Nat) (r : List UInt8) (h : n < 18446744073709551616) : takeL (encN n ++ r) = some (n, r) := by
  have h8 := digs_len8 n h
  have hl : (UInt8.ofNat (digs n).length).toNat = (digs n).length := toNat_ofNat _ (by omega)
  show takeL (UInt8.ofNat (digs n).length :: (digs n ++ r)) = _
  simp only [takeL, hl]
  have hc : ¬ (0 < (digs n).length ∧ (digs n ++ r).getD 0 0 = 0) := by
    rintro ⟨hp, h0⟩
    have hn : 0 < n := by
      rcases Nat.eq_zero_or_pos n with rfl | h
      · rw [digs_zero] at hp; simp at hp
      · exact h
    have := digs_head n hn
    cases hd : digs n with
    | nil => rw [hd] at hp; simp at hp
    | cons a q => rw [hd] at this h0; apply this; simpa using h0
  rw [if_pos ⟨h8, by simp, hc⟩, List.take_left, List.drop_left, numOf_digs]
theorem takeL_some (s : List UInt8) (n : Nat) (r : List UInt8) (h : takeL s = some (n, r)) : s = encN n ++ r ∧ n < 18446744073709551616 := by
  cases s with
  | nil => simp [takeL] at h
  | cons z t =>
    simp only [takeL] at h
    split at h
    · rename_i hc
      obtain ⟨h8, hl, h0⟩ := hc
      simp only [Option.some.injEq, Prod.mk.injEq] at h
      obtain ⟨rfl, rfl⟩ := h
      have hlen : (t.take z.toNat).length = z.toNat := by rw [List.length_take]; omega
      have hd : digs (numOf (t.take z.toNat)) = t.take z.toNat := by
        apply digs_numOf
        rcases Nat.eq_zero_or_pos z.toNat with hz | hz
        · left; rw [hz]; rfl
        · right
          intro e
          apply h0
          refine ⟨hz, ?_⟩
          simpa [List.getD_eq_getElem?_getD, List.getElem?_take, hz] using e
      constructor
      · unfold encN
        rw [hd, hlen]
        simp
      · have := numOf_lt (t.take z.toNat)
        rw [hlen] at this
        have h3 : 256 ^ z.toNat ≤ 256 ^ 8 := Nat.pow_le_pow_right (by omega) h8
        have h4 : (256 : Nat) ^ 8 = 18446744073709551616 := by decide
        omega
    · simp at h
theorem encN_len (n : Nat) (h : n < 18446744073709551616) : 1 ≤ (encN n).length ∧ (encN n).length ≤ 9 := by
  have := digs_len8 n h
  unfold encN
  simp
  omega
theorem takeL_len (s : List UInt8) (n : Nat) (r : List UInt8) (h : takeL s = some (n, r)) : r.length + 1 ≤ s.length := by
  obtain ⟨rfl, hn⟩ := takeL_some s n r h
  have := encN_len n hn
  simp
  omega
def takeTextL (s : List UInt8) (most : Int) : List UInt8 × List UInt8 × Int :=
  match takeL s with
  | none => ([], [], 2)
  | some (n, r) => if most < (n : Int) ∧ 0 < n then ([], [], 10) else if r.length < n then ([], [], 2) else (r.take n, r.drop n, 0)
def takeRowL (most : Int) : Nat → List UInt8 → List (List UInt8) × Int
  | 0, r => if r = [] then ([], 0) else ([], 2)
  | n + 1, r =>
    if (takeTextL r most).2.2 = 0 then
      (if (takeRowL most n (takeTextL r most).2.1).2 = 0 then ((takeTextL r most).1 :: (takeRowL most n (takeTextL r most).2.1).1, 0) else ([], (takeRowL most n (takeTextL r most).2.1).2))
    else ([], (takeTextL r most).2.2)
def takeAllL (s : List UInt8) (many most : Int) : List (List UInt8) × Int :=
  match takeL s with
  | none => ([], 2)
  | some (n, r) => if many < (n : Int) ∧ 0 < n then ([], 10) else takeRowL most n r
theorem takeTextL_len (s : List UInt8) (most : Int) (h : (takeTextL s most).2.2 = 0) : (takeTextL s most).2.1.length + 1 ≤ s.length := by
  revert h
  unfold takeTextL
  cases ht : takeL s with
  | none => intro h; simp at h
  | some p =>
    obtain ⟨n, r⟩ := p
    have := takeL_len s n r ht
    simp only
    split
    · intro h; simp at h
    · split
      · intro h; simp at h
      · intro _
        simp only [List.length_drop]
        omega
end Go.Proofs.YtodiffgpefidoaaDoor.P

