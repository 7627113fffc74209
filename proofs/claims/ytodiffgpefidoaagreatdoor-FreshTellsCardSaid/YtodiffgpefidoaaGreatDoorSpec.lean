/- Slimmed by wip/slim.py. -/
import Derived.Test.YtodiffgpefidoaaGreatDoorWAll
import Derived.Lib.BitFns
import Derived.Lib.Strings
namespace Go.Proofs.YtodiffgpefidoaaGreatDoor.P
open Go.Proofs.YtodiffgpefidoaaGreatDoorW.PrintWords
set_option linter.unusedVariables false
set_option linter.unusedSimpArgs false
def B (l : List UInt8) : ByteArray := ⟨l.toArray⟩
def S (s : ByteArray) : List UInt8 := s.data.toList
theorem B_S (s : ByteArray) : B (S s) = s := rfl
theorem S_B (l : List UInt8) : S (B l) = l := rfl
theorem B_inj {l m : List UInt8} (h : B l = B m) : l = m := by rw [← S_B l, h, S_B]
theorem size_B (l : List UInt8) : (B l).size = l.length := by simp [B, ByteArray.size]
theorem size_S (s : ByteArray) : s.size = (S s).length := by rw [← size_B, B_S]
theorem append_B (l m : List UInt8) : B l ++ B m = B (l ++ m) := by
  apply ByteArray.ext; simp [B]
theorem extract_B (l : List UInt8) (i j : Nat) : (B l).extract i j = B ((l.take j).drop i) := by
  apply ByteArray.ext; simp [B, List.extract_eq_take_drop, List.drop_take]
theorem toList_S (s : ByteArray) : s.toList = S s := ByteArray.toList_eq s
theorem toList_B (l : List UInt8) : (B l).toList = l := by rw [toList_S, S_B]
theorem bt_B (l : List UInt8) (i : Int) : bt (B l) i = (((l.getD i.toNat 0).toNat : Nat) : Int) := by
  unfold bt
  split
  · rename_i h
    rw [size_B] at h
    simp [List.getD_eq_getElem?_getD, h]; rfl
  · rename_i h
    rw [size_B] at h
    simp [List.getD_eq_getElem?_getD, List.getElem?_eq_none (by omega : l.length ≤ i.toNat)]
def numOf (l : List UInt8) : Nat := l.foldl (fun a b => 256 * a + b.toNat) 0
theorem numOf_snoc (l : List UInt8) (b : UInt8) : numOf (l ++ [b]) = 256 * numOf l + b.toNat := by simp [numOf]
theorem numOf_lt (l : List UInt8) : numOf l < 256 ^ l.length := by
  have key : ∀ (n : Nat) (l : List UInt8), l.length = n → numOf l < 256 ^ n := by
    intro n
    induction n with
    | zero => intro l h; obtain rfl := List.eq_nil_of_length_eq_zero h; decide
    | succ n ih =>
      intro l h
      have hne : l ≠ [] := by intro e; simp [e] at h
      obtain ⟨m, b, rfl⟩ : ∃ m b, l = m ++ [b] := ⟨l.dropLast, l.getLast hne, (List.dropLast_concat_getLast hne).symm⟩
      have := ih m (by simpa using h)
      have hb := b.toNat_lt
      rw [numOf_snoc, Nat.pow_succ]
      omega
  exact key _ l rfl
def takeL : List UInt8 → Option (Nat × List UInt8)
  | [] => none
  | z :: r => if z.toNat ≤ 8 ∧ z.toNat ≤ r.length ∧ ¬ (0 < z.toNat ∧ r.getD 0 0 = 0) then some (numOf (r.take z.toNat), r.drop z.toNat) else none
end Go.Proofs.YtodiffgpefidoaaGreatDoor.P
namespace Go.Proofs.YtodiffgpefidoaaGreatDoor.P
open Go.Proofs.YtodiffgpefidoaaGreatDoorW.PrintWords
set_option linter.unusedVariables false
set_option linter.unusedSimpArgs false
def digs (n : Nat) : List UInt8 := if h : n = 0 then [] else digs (n / 256) ++ [UInt8.ofNat (n % 256)]
termination_by n
decreasing_by omega
theorem digs_zero : digs 0 = [] := by rw [digs]; rfl
theorem digs_pos (n : Nat) (h : 0 < n) : digs n = digs (n / 256) ++ [UInt8.ofNat (n % 256)] := by rw [digs]; rw [dif_neg (by omega)]
theorem toNat_ofNat (n : Nat) (h : n < 256) : (UInt8.ofNat n).toNat = n := by simp [UInt8.toNat_ofNat']; omega
theorem numOf_digs : ∀ n : Nat, numOf (digs n) = n := by
  intro n
  induction n using Nat.strongRecOn with
  | _ n ih =>
    rcases Nat.eq_zero_or_pos n with rfl | h
    · rw [digs_zero]; rfl
    · rw [digs_pos n h, numOf_snoc, ih _ (by omega), toNat_ofNat _ (by omega)]
      omega
theorem digs_len : ∀ (j n : Nat), n < 256 ^ j → (digs n).length ≤ j := by
  intro j
  induction j with
  | zero => intro n h; obtain rfl : n = 0 := by simpa using h
            rw [digs_zero]; simp
  | succ j ih =>
    intro n h
    rcases Nat.eq_zero_or_pos n with rfl | hp
    · rw [digs_zero]; simp
    · rw [digs_pos n hp, List.length_append]
      have := ih (n / 256) (by rw [Nat.pow_succ] at h; omega)
      simpa using this
theorem digs_len8 (n : Nat) (h : n < 18446744073709551616) : (digs n).length ≤ 8 := digs_len 8 n (by rw [show (256 : Nat) ^ 8 = 18446744073709551616 from by decide]; exact h)
theorem digs_ne (n : Nat) (h : 0 < n) : digs n ≠ [] := by rw [digs_pos n h]; simp
theorem digs_head : ∀ n : Nat, 0 < n → (digs n).getD 0 0 ≠ 0 := by
  intro n
  induction n using Nat.strongRecOn with
  | _ n ih =>
    intro h
    rw [digs_pos n h]
    rcases Nat.eq_zero_or_pos (n / 256) with h0 | h0
    · rw [h0, digs_zero]
      intro e
      have e2 : (UInt8.ofNat (n % 256)).toNat = 0 := by
        have : UInt8.ofNat (n % 256) = 0 := by simpa using e
        rw [this]; rfl
      rw [toNat_ofNat _ (by omega)] at e2
      omega
    · have := ih (n / 256) (by omega) h0
      have hne := digs_ne _ h0
      cases hd : digs (n / 256) with
      | nil => exact absurd hd hne
      | cons a r => rw [hd] at this; simpa using this
theorem numOf_pos (l : List UInt8) (h : l.getD 0 0 ≠ 0) : 0 < numOf l := by
  have key : ∀ (n : Nat) (l : List UInt8), l.length = n → l.getD 0 0 ≠ 0 → 0 < numOf l := by
    intro n
    induction n with
    | zero => intro l hl h; obtain rfl := List.eq_nil_of_length_eq_zero hl; simp at h
    | succ n ih =>
      intro l hl h
      have hne : l ≠ [] := by intro e; simp [e] at hl
      obtain ⟨m, b, rfl⟩ : ∃ m b, l = m ++ [b] := ⟨l.dropLast, l.getLast hne, (List.dropLast_concat_getLast hne).symm⟩
      rw [numOf_snoc]
      cases m with
      | nil =>
        have hb : b.toNat ≠ 0 := by
          intro e; apply h; simp; exact UInt8.toNat_inj.mp (by simpa using e)
        omega
      | cons a r =>
        have := ih (a :: r) (by simpa using hl) (by simpa using h)
        omega
  exact key _ l rfl h
theorem digs_numOf (l : List UInt8) (h : l = [] ∨ l.getD 0 0 ≠ 0) : digs (numOf l) = l := by
  have key : ∀ (n : Nat) (l : List UInt8), l.length = n → (l = [] ∨ l.getD 0 0 ≠ 0) → digs (numOf l) = l := by
    intro n
    induction n with
    | zero => intro l hl h; obtain rfl := List.eq_nil_of_length_eq_zero hl; exact digs_zero
    | succ n ih =>
      intro l hl h
      have hne : l ≠ [] := by intro e; simp [e] at hl
      have hp := numOf_pos l (h.resolve_left hne)
      obtain ⟨m, b, rfl⟩ : ∃ m b, l = m ++ [b] := ⟨l.dropLast, l.getLast hne, (List.dropLast_concat_getLast hne).symm⟩
      have hb := b.toNat_lt
      have hm : m = [] ∨ m.getD 0 0 ≠ 0 := by
        cases m with
        | nil => exact .inl rfl
        | cons a r => exact .inr (by simpa using h)
      rw [digs_pos _ hp, numOf_snoc, show (256 * numOf m + b.toNat) / 256 = numOf m from by omega, show (256 * numOf m + b.toNat) % 256 = b.toNat from by omega, ih m (by simpa using hl) hm]
      simp
  exact key _ l rfl h
def encN (n : Nat) : List UInt8 := UInt8.ofNat (digs n).length :: digs n
def textL (t : List UInt8) : List UInt8 := encN t.length ++ t
def rowL (l : List (List UInt8)) : List UInt8 := encN l.length ++ (l.map textL).flatten
theorem takeL_encN (n : Nat) (r : List UInt8) (h : n < 18446744073709551616) : takeL (encN n ++ r) = some (n, r) := by
  have h8 := digs_len8 n h
  have hl : (UInt8.ofNat (digs n).length).toNat = (digs n).length := toNat_ofNat _ (by omega)
  show takeL (UInt8.ofNat (digs n).length :: (digs n ++ r)) = _
  simp only [takeL, hl]
  have hc : ¬ (0 < (digs n).length ∧ (digs n ++ r).getD 0 0 = 0) := by
    rintro ⟨hp, h0⟩
    have hn : 0 < n := by
      rcases Nat.eq_zero_or_pos n with rfl | h
      · rw [digs_zero] at hp; simp at hp
      · exact h
    have := digs_head n hn
    cases hd : digs n with
    | nil => rw [hd] at hp; simp at hp
    | cons a q => rw [hd] at this h0; apply this; simpa using h0
  rw [if_pos ⟨h8, by simp, hc⟩, List.take_left, List.drop_left, numOf_digs]
theorem takeL_some (s : List UInt8) (n : Nat) (r : List UInt8) (h : takeL s = some (n, r)) : s = encN n ++ r ∧ n < 18446744073709551616 := by
  cases s with
  | nil => simp [takeL] at h
  | cons z t =>
    simp only [takeL] at h
    split at h
    · rename_i hc
      obtain ⟨h8, hl, h0⟩ := hc
      simp only [Option.some.injEq, Prod.mk.injEq] at h
      obtain ⟨rfl, rfl⟩ := h
      have hlen : (t.take z.toNat).length = z.toNat := by rw [List.length_take]; omega
      have hd : digs (numOf (t.take z.toNat)) = t.take z.toNat := by
        apply digs_numOf
        rcases Nat.eq_zero_or_pos z.toNat with hz | hz
        · left; rw [hz]; rfl
        · right
          intro e
          apply h0
          refine ⟨hz, ?_⟩
          simpa [List.getD_eq_getElem?_getD, List.getElem?_take, hz] using e
      constructor
      · unfold encN
        rw [hd, hlen]
        simp
      · have := numOf_lt (t.take z.toNat)
        rw [hlen] at this
        have h3 : 256 ^ z.toNat ≤ 256 ^ 8 := Nat.pow_le_pow_right (by omega) h8
        have h4 : (256 : Nat) ^ 8 = 18446744073709551616 := by decide
        omega
    · simp at h
theorem encN_len (n : Nat) (h : n < 18446744073709551616) : 1 ≤ (encN n).length ∧ (encN n).length ≤ 9 := by
  have := digs_len8 n h
  unfold encN
  simp
  omega
theorem takeL_len (s : List UInt8) (n : Nat) (r : List UInt8) (h : takeL s = some (n, r)) : r.length + 1 ≤ s.length := by
  obtain ⟨rfl, hn⟩ := takeL_some s n r h
  have := encN_len n hn
  simp
  omega
def takeTextL (s : List UInt8) (most : Int) : List UInt8 × List UInt8 × Int :=
  match takeL s with
  | none => ([], [], 2)
  | some (n, r) => if most < (n : Int) ∧ 0 < n then ([], [], 10) else if r.length < n then ([], [], 2) else (r.take n, r.drop n, 0)
def takeRowL (most : Int) : Nat → List UInt8 → List (List UInt8) × Int
  | 0, r => if r = [] then ([], 0) else ([], 2)
  | n + 1, r =>
    if (takeTextL r most).2.2 = 0 then
      (if (takeRowL most n (takeTextL r most).2.1).2 = 0 then ((takeTextL r most).1 :: (takeRowL most n (takeTextL r most).2.1).1, 0) else ([], (takeRowL most n (takeTextL r most).2.1).2))
    else ([], (takeTextL r most).2.2)
def takeAllL (s : List UInt8) (many most : Int) : List (List UInt8) × Int :=
  match takeL s with
  | none => ([], 2)
  | some (n, r) => if many < (n : Int) ∧ 0 < n then ([], 10) else takeRowL most n r
theorem takeTextL_len (s : List UInt8) (most : Int) (h : (takeTextL s most).2.2 = 0) : (takeTextL s most).2.1.length + 1 ≤ s.length := by
  revert h
  unfold takeTextL
  cases ht : takeL s with
  | none => intro h; simp at h
  | some p =>
    obtain ⟨n, r⟩ := p
    have := takeL_len s n r ht
    simp only
    split
    · intro h; simp at h
    · split
      · intro h; simp at h
      · intro _
        simp only [List.length_drop]
        omega
end Go.Proofs.YtodiffgpefidoaaGreatDoor.P
namespace Go.Proofs.YtodiffgpefidoaaGreatDoor.P
set_option linter.unusedVariables false
set_option linter.unusedSimpArgs false
theorem takeTextL_textL (t r : List UInt8) (most : Int) (ht : t.length < 18446744073709551616) :
    takeTextL (textL t ++ r) most = if most < (t.length : Int) ∧ 0 < t.length then ([], [], 10) else (t, r, 0) := by
  unfold takeTextL textL
  rw [List.append_assoc, takeL_encN _ _ ht]
  simp only
  split
  · rfl
  · rw [if_neg (by rw [List.length_append]; omega), List.take_left, List.drop_left]
theorem takeTextL_some (s : List UInt8) (most : Int) (h : (takeTextL s most).2.2 = 0) : s = textL (takeTextL s most).1 ++ (takeTextL s most).2.1 ∧ (takeTextL s most).1.length < 18446744073709551616 ∧ ((takeTextL s most).1.length : Int) ≤ (if 0 ≤ most then most else 0) := by
  revert h
  unfold takeTextL
  cases ht : takeL s with
  | none => intro h; simp at h
  | some p =>
    obtain ⟨n, r⟩ := p
    obtain ⟨rfl, hn⟩ := takeL_some s n r ht
    simp only
    split
    · intro h; simp at h
    · split
      · intro h; simp at h
      · intro _
        simp only
        have hl : (List.take n r).length = n := by rw [List.length_take]; omega
        unfold textL
        rw [hl, List.append_assoc, List.take_append_drop]
        exact ⟨rfl, hn, by split <;> omega⟩
theorem takeTextL_err (s : List UInt8) (most : Int) (h : (takeTextL s most).2.2 ≠ 0) : (takeTextL s most).1 = [] ∧ (takeTextL s most).2.1 = [] := by
  revert h
  unfold takeTextL
  cases ht : takeL s with
  | none => intro h; exact ⟨rfl, rfl⟩
  | some p =>
    simp only
    split
    · intro h; exact ⟨rfl, rfl⟩
    · split
      · intro h; exact ⟨rfl, rfl⟩
      · intro h; exact absurd rfl h
theorem takeRowL_some (most : Int) : ∀ (n : Nat) (r : List UInt8), (takeRowL most n r).2 = 0 → r = ((takeRowL most n r).1.map textL).flatten ∧ (takeRowL most n r).1.length = n := by
  intro n
  induction n with
  | zero =>
    intro r h
    unfold takeRowL at h ⊢
    split
    · rename_i e; subst e; exact ⟨rfl, rfl⟩
    · rename_i e; rw [if_neg e] at h; simp at h
  | succ n ih =>
    intro r h
    rw [takeRowL] at h ⊢
    split at h
    · rename_i h1
      split at h
      · rename_i h2
        rw [if_pos h1, if_pos h2]
        obtain ⟨e1, e2, _⟩ := takeTextL_some r most h1
        obtain ⟨e3, e4⟩ := ih _ h2
        simp only [List.map_cons, List.flatten_cons, List.length_cons]
        exact ⟨by rw [← e3]; exact e1, by rw [e4]⟩
      · rename_i h2; exact absurd h h2
    · rename_i h1; exact absurd h h1
theorem takeAllL_some (s : List UInt8) (many most : Int) (h : (takeAllL s many most).2 = 0) : rowL (takeAllL s many most).1 = s := by
  revert h
  unfold takeAllL
  cases ht : takeL s with
  | none => intro h; simp at h
  | some p =>
    obtain ⟨n, r⟩ := p
    obtain ⟨rfl, hn⟩ := takeL_some s n r ht
    simp only
    split
    · intro h; simp at h
    · intro h
      obtain ⟨e1, e2⟩ := takeRowL_some most n r h
      unfold rowL
      rw [e2, ← e1]
end Go.Proofs.YtodiffgpefidoaaGreatDoor.P
namespace Go.Proofs.YtodiffgpefidoaaGreatDoor.P
set_option linter.unusedVariables false
set_option linter.unusedSimpArgs false
def tlen : Nat → List UInt8 → Nat
  | 0, _ => 0
  | _ + 1, [] => 0
  | d + 1, k :: r =>
    if k = 97 then (match takeL r with | none => 0 | some p => 1 + r.length - p.2.length)
    else if k = 116 then (if (takeTextL r 4000).2.2 = 0 then 1 + r.length - (takeTextL r 4000).2.1.length else 0)
    else if k = 104 ∨ k = 117 then (if tlen d r = 0 then 0 else 1 + tlen d r)
    else if k = 112 ∨ k = 115 ∨ k = 98 ∨ k = 103 then
      (if k = 98 ∧ r.getD 0 0 ≠ 117 then 0 else if tlen d r = 0 then 0 else if tlen d (r.drop (tlen d r)) = 0 then 0 else 1 + tlen d r + tlen d (r.drop (tlen d r)))
    else 0
theorem tlen_nil (d : Nat) : tlen d [] = 0 := by cases d <;> rfl
theorem tlen_le : ∀ (d : Nat) (l : List UInt8), tlen d l ≤ l.length := by
  intro d
  induction d with
  | zero => intro l; simp [tlen]
  | succ d ih =>
    intro l
    cases l with
    | nil => simp [tlen]
    | cons k r =>
      have h1 := ih r
      have h2 := ih (r.drop (tlen d r))
      rw [List.length_drop] at h2
      rw [tlen, List.length_cons]
      split
      · split
        · omega
        · omega
      · split
        · split <;> omega
        · split
          · split <;> omega
          · split
            · split
              · omega
              · split
                · omega
                · split <;> omega
            · omega
theorem takeL_append (s : List UInt8) (n : Nat) (q r : List UInt8) (h : takeL s = some (n, q)) : takeL (s ++ r) = some (n, q ++ r) := by
  obtain ⟨rfl, hn⟩ := takeL_some s n q h
  rw [List.append_assoc, takeL_encN n _ hn]
theorem takeTextL_append (s : List UInt8) (most : Int) (r : List UInt8) (h : (takeTextL s most).2.2 = 0) : takeTextL (s ++ r) most = ((takeTextL s most).1, (takeTextL s most).2.1 ++ r, 0) := by
  obtain ⟨e, hl, hb⟩ := takeTextL_some s most h
  have T := takeTextL_textL (takeTextL s most).1 ((takeTextL s most).2.1 ++ r) most hl
  rw [← List.append_assoc, ← e] at T
  rw [T, if_neg (by split at hb <;> omega)]
theorem tlen_append : ∀ (d : Nat) (l r : List UInt8), tlen d l ≠ 0 → tlen d (l ++ r) = tlen d l := by
  intro d
  induction d with
  | zero => intro l r h; exact absurd rfl h
  | succ d ih =>
    intro l r h
    cases l with
    | nil => exact absurd rfl h
    | cons k q =>
      rw [List.cons_append]
      rw [tlen] at h
      rw [tlen, tlen]
      by_cases h1 : k = 97
      · rw [if_pos h1] at h
        rw [if_pos h1, if_pos h1]
        cases ht : takeL q with
        | none => rw [ht] at h; simp at h
        | some p =>
          obtain ⟨n, s⟩ := p
          have hlen := takeL_len q n s ht
          rw [takeL_append q n s r ht]
          simp only [List.length_append]
          omega
      · rw [if_neg h1] at h
        rw [if_neg h1, if_neg h1]
        by_cases h2 : k = 116
        · rw [if_pos h2] at h
          rw [if_pos h2, if_pos h2]
          by_cases h3 : (takeTextL q 4000).2.2 = 0
          · have hlen := takeTextL_len q 4000 h3
            rw [takeTextL_append q 4000 r h3]
            simp only
            rw [if_pos trivial, if_pos h3, List.length_append, List.length_append]
            omega
          · rw [if_neg h3] at h; exact absurd rfl h
        · rw [if_neg h2] at h
          rw [if_neg h2, if_neg h2]
          by_cases h3 : k = 104 ∨ k = 117
          · rw [if_pos h3] at h
            rw [if_pos h3, if_pos h3]
            by_cases h4 : tlen d q = 0
            · rw [if_pos h4] at h; exact absurd rfl h
            · rw [ih q r h4]
          · rw [if_neg h3] at h
            rw [if_neg h3, if_neg h3]
            by_cases h4 : k = 112 ∨ k = 115 ∨ k = 98 ∨ k = 103
            · rw [if_pos h4] at h
              rw [if_pos h4, if_pos h4]
              have hq : q ≠ [] := by
                intro e
                rw [e, tlen_nil] at h
                simp at h
              have hg : (q ++ r).getD 0 0 = q.getD 0 0 := by
                cases q with
                | nil => exact absurd rfl hq
                | cons a q => simp
              rw [hg]
              by_cases h5 : k = 98 ∧ q.getD 0 0 ≠ 117
              · rw [if_pos h5, if_pos h5]
              · rw [if_neg h5] at h
                rw [if_neg h5, if_neg h5]
                by_cases h6 : tlen d q = 0
                · rw [if_pos h6] at h; exact absurd rfl h
                · rw [if_neg h6] at h
                  have hle := tlen_le d q
                  rw [ih q r h6, List.drop_append_of_le_length hle]
                  by_cases h7 : tlen d (q.drop (tlen d q)) = 0
                  · rw [if_pos h7] at h; exact absurd rfl h
                  · rw [ih _ r h7]
            · rw [if_neg h4] at h; exact absurd rfl h
theorem tlen_more : ∀ (d : Nat) (l : List UInt8), tlen d l ≠ 0 → tlen (d + 1) l = tlen d l := by
  intro d
  induction d with
  | zero => intro l h; exact absurd rfl h
  | succ d ih =>
    intro l h
    cases l with
    | nil => exact absurd rfl h
    | cons k q =>
      rw [tlen] at h
      rw [tlen, tlen]
      by_cases h1 : k = 97
      · rw [if_pos h1, if_pos h1]
      · rw [if_neg h1] at h
        rw [if_neg h1, if_neg h1]
        by_cases h2 : k = 116
        · rw [if_pos h2, if_pos h2]
        · rw [if_neg h2] at h
          rw [if_neg h2, if_neg h2]
          by_cases h3 : k = 104 ∨ k = 117
          · rw [if_pos h3] at h
            rw [if_pos h3, if_pos h3]
            by_cases h4 : tlen d q = 0
            · rw [if_pos h4] at h; exact absurd rfl h
            · rw [ih q h4]
          · rw [if_neg h3] at h
            rw [if_neg h3, if_neg h3]
            by_cases h4 : k = 112 ∨ k = 115 ∨ k = 98 ∨ k = 103
            · rw [if_pos h4] at h
              rw [if_pos h4, if_pos h4]
              by_cases h5 : k = 98 ∧ q.getD 0 0 ≠ 117
              · rw [if_pos h5, if_pos h5]
              · rw [if_neg h5] at h
                rw [if_neg h5, if_neg h5]
                by_cases h6 : tlen d q = 0
                · rw [if_pos h6] at h; exact absurd rfl h
                · rw [if_neg h6] at h
                  rw [ih q h6]
                  by_cases h7 : tlen d (q.drop (tlen d q)) = 0
                  · rw [if_pos h7] at h; exact absurd rfl h
                  · rw [ih _ h7]
            · rw [if_neg h4] at h; exact absurd rfl h
def right (l : List UInt8) : Bool := decide (l ≠ [] ∧ l.length ≤ 4000 ∧ tlen 40 l = l.length)
theorem right_iff (l : List UInt8) : right l = true ↔ l ≠ [] ∧ l.length ≤ 4000 ∧ tlen 40 l = l.length := by unfold right; rw [decide_eq_true_iff]
def kindL (l : List UInt8) : UInt8 := if right l then l.getD 0 0 else 0
def partsL (l : List UInt8) : List (List UInt8) :=
  if l.getD 0 0 = 104 ∨ l.getD 0 0 = 117 then [l.tail]
  else if l.getD 0 0 = 112 ∨ l.getD 0 0 = 115 ∨ l.getD 0 0 = 98 ∨ l.getD 0 0 = 103 then [l.tail.take (tlen 40 l.tail), l.tail.drop (tlen 40 l.tail)]
  else []
end Go.Proofs.YtodiffgpefidoaaGreatDoor.P
