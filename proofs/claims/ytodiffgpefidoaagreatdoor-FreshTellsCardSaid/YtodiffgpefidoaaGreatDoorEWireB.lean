/- Slimmed by wip/slim.py. -/
import Derived.Test.YtodiffgpefidoaaGreatDoorEWire
namespace Go.Proofs.YtodiffgpefidoaaGreatDoor.P
open Go.RowKit Go.Proofs.YtodiffgpefidoaaGreatDoorW.PrintWords Go.Proofs.YtodiffgpefidoaaGreatDoorW.PrintLast Go.Proofs.YtodiffgpefidoaaGreatDoorW.PrintMore
set_option linter.unusedVariables false
set_option linter.unusedSimpArgs false
def ta (p : List (List UInt8) × Int) : List ByteArray × Int := (p.1.map B, p.2)
theorem takeAll_loop (most : Int) (h0 : -9223372036854775808 ≤ most) (h1 : most ≤ 9223372036854775807) : ∀ (m n i : Nat) (r : List UInt8) (acc : List ByteArray), n = i + m → n ≤ 9223372036854775807 → acc.length + r.length ≤ 1000000 →
    Ev (fun k => wire_TakeAll.l0 k most (B r) acc (n : Int) (i : Int)) (if (takeRowL most m r).2 = 0 then (acc ++ (takeRowL most m r).1.map B, 0) else ([], (takeRowL most m r).2)) := by
  intro m
  induction m with
  | zero =>
    intro n i r acc hn hb hl
    refine ⟨1, fun k hk => ?_⟩
    obtain ⟨k, rfl⟩ : ∃ m, k = m + 1 := ⟨k - 1, by omega⟩
    show wire_TakeAll.l0 (k + 1) most (B r) acc (n : Int) (i : Int) = _
    rw [wire_TakeAll.l0, if_neg (by omega), toList_B]
    unfold takeRowL
    by_cases hr : r = []
    · rw [if_pos hr, if_pos hr, if_pos rfl]
      simp
    · rw [if_neg hr, if_neg hr, if_neg (by decide)]
  | succ m ih =>
    intro n i r acc hn hb hl
    obtain ⟨K, hK⟩ := wire_TakeText.ev r most h0 h1
    by_cases he : (takeTextL r most).2.2 = 0
    · have hlen := takeTextL_len r most he
      obtain ⟨K2, hK2⟩ := ih n (i + 1) (takeTextL r most).2.1 (acc ++ [B (takeTextL r most).1]) (by omega) hb (by rw [List.length_append, List.length_singleton]; omega)
      refine ⟨K + K2 + 1, fun k hk => ?_⟩
      obtain ⟨k, rfl⟩ : ∃ m, k = m + 1 := ⟨k - 1, by omega⟩
      have e1 : wire_TakeText.f k (B r) most = _ := hK k (by omega)
      have e2 : wire_TakeAll.l0 k most (B (takeTextL r most).2.1) (acc ++ [B (takeTextL r most).1]) (n : Int) ((i + 1 : Nat) : Int) = _ := hK2 k (by omega)
      show wire_TakeAll.l0 (k + 1) most (B r) acc (n : Int) (i : Int) = _
      rw [wire_TakeAll.l0, if_pos (by omega), e1, Option.bind_some]
      unfold tt
      rw [if_pos he, if_pos (by omega), w64 _ (by omega) (by omega), show (i : Int) + 1 = ((i + 1 : Nat) : Int) from by omega, e2]
      rw [takeRowL, if_pos he]
      by_cases h2 : (takeRowL most m (takeTextL r most).2.1).2 = 0
      · rw [if_pos h2, if_pos h2, if_pos rfl]
        simp
      · rw [if_neg h2, if_neg h2, if_neg h2]
    · refine ⟨K + 1, fun k hk => ?_⟩
      obtain ⟨k, rfl⟩ : ∃ m, k = m + 1 := ⟨k - 1, by omega⟩
      have e1 : wire_TakeText.f k (B r) most = _ := hK k (by omega)
      show wire_TakeAll.l0 (k + 1) most (B r) acc (n : Int) (i : Int) = _
      rw [wire_TakeAll.l0, if_pos (by omega), e1, Option.bind_some]
      unfold tt
      rw [if_neg he, takeRowL, if_neg he, if_neg he]
theorem takeRowL_err (most : Int) : ∀ (m : Nat) (r : List UInt8), (takeRowL most m r).2 ≠ 0 → (takeRowL most m r).1 = [] := by
  intro m
  cases m with
  | zero => intro r; unfold takeRowL; split <;> simp
  | succ m =>
    intro r
    rw [takeRowL]
    split
    · split
      · intro h; exact absurd rfl h
      · intro _; rfl
    · intro _; rfl
theorem wire_TakeAll.ev (s : List UInt8) (many most : Int) (hs : s.length ≤ 1000000) (h0 : -9223372036854775808 ≤ most) (h1 : most ≤ 9223372036854775807) (h2 : -9223372036854775808 ≤ many) (h3 : many ≤ 9223372036854775807) :
    Ev (fun k => wire_TakeAll.f k (B s) many most) (ta (takeAllL s many most)) := by
  unfold takeAllL
  cases ht : takeL s with
  | none =>
    refine ⟨0, fun k hk => ?_⟩
    show wire_TakeAll.f k (B s) many most = _
    unfold wire_TakeAll.f
    rw [wire_limited.of s many h2 h3, ht, Option.bind_some, if_neg (by decide)]
    rfl
  | some p =>
    obtain ⟨n, r⟩ := p
    have hn := (takeL_some s n r ht).2
    have hl := takeL_len s n r ht
    by_cases hc : many < (n : Int) ∧ 0 < n
    · refine ⟨0, fun k hk => ?_⟩
      show wire_TakeAll.f k (B s) many most = _
      unfold wire_TakeAll.f
      rw [wire_limited.of s many h2 h3, ht]
      simp only
      rw [if_pos hc, if_pos hc, Option.bind_some, if_neg (by decide)]
      rfl
    · obtain ⟨K, hK⟩ := takeAll_loop most h0 h1 n n 0 r [] (by omega) (by omega) (by rw [List.length_nil]; omega)
      refine ⟨K, fun k hk => ?_⟩
      have e : wire_TakeAll.l0 k most (B r) [] (n : Int) 0 = _ := hK k hk
      show wire_TakeAll.f k (B s) many most = _
      unfold wire_TakeAll.f
      rw [wire_limited.of s many h2 h3, ht]
      simp only
      rw [if_neg hc, if_neg hc, Option.bind_some, if_pos rfl, e]
      unfold ta
      by_cases h : (takeRowL most n r).2 = 0
      · rw [if_pos h, h]; simp
      · rw [if_neg h, takeRowL_err most n r h]; rfl
def heavy (l : List (List UInt8)) : Nat := (l.map fun t => t.length + 9).sum
theorem heavy_cons (x : List UInt8) (l : List (List UInt8)) : heavy (x :: l) = x.length + 9 + heavy l := by simp [heavy]
theorem heavy_len : ∀ (l : List (List UInt8)), 9 * l.length ≤ heavy l
  | [] => by simp
  | x :: l => by rw [heavy_cons, List.length_cons]; have := heavy_len l; omega
theorem heavy_drop (l : List (List UInt8)) (i : Nat) : heavy (l.drop i) ≤ heavy l := by
  induction i generalizing l with
  | zero => exact Nat.le_refl _
  | succ i ih =>
    cases l with
    | nil => simp
    | cons x l => rw [List.drop_succ_cons, heavy_cons]; have := ih l; omega
theorem putAll_loop (l : List (List UInt8)) (hl : heavy l ≤ 1000000000) : ∀ (m i : Nat) (acc : List (List UInt8)), l.length = i + m → acc.flatten.length + heavy (l.drop i) ≤ 2000000000 → acc.length + m ≤ 2000000000 →
    Ev (fun k => wire_PutAll.l0 k (acc.map B) (l.map B) (l.length : Int) (i : Int)) (B (acc.flatten ++ ((l.drop i).map textL).flatten)) := by
  intro m
  induction m with
  | zero =>
    intro i acc hi h1 h2
    refine ⟨1, fun k hk => ?_⟩
    obtain ⟨k, rfl⟩ : ∃ m, k = m + 1 := ⟨k - 1, by omega⟩
    show wire_PutAll.l0 (k + 1) (acc.map B) (l.map B) (l.length : Int) (i : Int) = _
    rw [wire_PutAll.l0, if_neg (by omega), wire_join.of _ (by omega) (by omega), Option.bind_some, List.drop_of_length_le (by omega)]
    simp
  | succ m ih =>
    intro i acc hi h1 h2
    have hd := drop_getD l i [] (by omega)
    have hh := heavy_drop l i
    have hlen := heavy_len l
    rw [hd, heavy_cons] at hh h1
    obtain ⟨K, hK⟩ := wire_PutText.ev (l.getD i []) (by omega)
    have ht := textL_len (l.getD i []) (by omega)
    obtain ⟨K2, hK2⟩ := ih (i + 1) (acc ++ [textL (l.getD i [])]) (by omega) (by rw [List.flatten_append, List.length_append]; simp only [List.flatten_cons, List.flatten_nil, List.append_nil]; omega) (by rw [List.length_append, List.length_singleton]; omega)
    refine ⟨K + K2 + 1, fun k hk => ?_⟩
    obtain ⟨k, rfl⟩ : ∃ m, k = m + 1 := ⟨k - 1, by omega⟩
    have e1 : wire_PutText.f k (B (l.getD i [])) = _ := hK k (by omega)
    have e2 : wire_PutAll.l0 k ((acc ++ [textL (l.getD i [])]).map B) (l.map B) (l.length : Int) ((i + 1 : Nat) : Int) = _ := hK2 k (by omega)
    show wire_PutAll.l0 (k + 1) (acc.map B) (l.map B) (l.length : Int) (i : Int) = _
    rw [wire_PutAll.l0, if_pos (by omega), if_pos (by omega), if_pos (by rw [List.length_map]; omega), rdOf_B, e1, Option.bind_some, if_pos (by rw [List.length_map]; omega), w64 _ (by omega) (by omega),
      show (i : Int) + 1 = ((i + 1 : Nat) : Int) from by omega, show acc.map B ++ [B (textL (l.getD i []))] = (acc ++ [textL (l.getD i [])]).map B from by rw [List.map_append]; rfl, e2, hd]
    simp
theorem wire_PutAll.ev (l : List (List UInt8)) (hl : heavy l ≤ 1000000000) : Ev (fun k => wire_PutAll.f k (l.map B)) (B (rowL l)) := by
  have hn := heavy_len l
  have he := encN_len l.length (by omega)
  obtain ⟨K, hK⟩ := wire_Put.ev l.length (by omega)
  obtain ⟨K2, hK2⟩ := putAll_loop l hl l.length 0 [encN l.length] (by omega) (by simp; omega) (by simp; omega)
  refine ⟨K + K2, fun k hk => ?_⟩
  have e : wire_Put.f k ((l.length : Nat) : Int) = _ := hK k (by omega)
  have e2 : wire_PutAll.l0 k ([encN l.length].map B) (l.map B) (l.length : Int) 0 = _ := hK2 k (by omega)
  show wire_PutAll.f k (l.map B) = _
  unfold wire_PutAll.f
  rw [List.length_map, wu64 _ (by omega) (by omega), e, Option.bind_some, show [B (encN l.length)] = [encN l.length].map B from rfl, e2]
  unfold rowL
  simp
theorem ref2_takeAll_loop (most : Int) (h0 : -9223372036854775808 ≤ most) (h1 : most ≤ 9223372036854775807) : ∀ (m n i : Nat) (r : List UInt8) (acc : List ByteArray), n = i + m → n < 18446744073709551616 → acc.length + r.length ≤ 1000000 →
    Ev (fun k => letterlockref2_TakeAll.l0 k most (n : Int) (B r) acc (i : Int)) (if (takeRowL most m r).2 = 0 then (acc ++ (takeRowL most m r).1.map B, 0) else ([], (takeRowL most m r).2)) := by
  intro m
  induction m with
  | zero =>
    intro n i r acc hn hb hl
    refine ⟨1, fun k hk => ?_⟩
    obtain ⟨k, rfl⟩ : ∃ m, k = m + 1 := ⟨k - 1, by omega⟩
    show letterlockref2_TakeAll.l0 (k + 1) most (n : Int) (B r) acc (i : Int) = _
    rw [letterlockref2_TakeAll.l0, if_neg (by omega), toList_B]
    unfold takeRowL
    by_cases hr : r = []
    · rw [if_pos hr, if_pos hr, if_pos rfl]
      simp
    · rw [if_neg hr, if_neg hr, if_neg (by decide)]
  | succ m ih =>
    intro n i r acc hn hb hl
    obtain ⟨K, hK⟩ := letterlockref2_TakeText.ev r most (by omega) h0 h1
    by_cases he : (takeTextL r most).2.2 = 0
    · have hlen := takeTextL_len r most he
      obtain ⟨K2, hK2⟩ := ih n (i + 1) (takeTextL r most).2.1 (acc ++ [B (takeTextL r most).1]) (by omega) hb (by rw [List.length_append, List.length_singleton]; omega)
      refine ⟨K + K2 + 1, fun k hk => ?_⟩
      obtain ⟨k, rfl⟩ : ∃ m, k = m + 1 := ⟨k - 1, by omega⟩
      have e1 : letterlockref2_TakeText.f k (B r) most = _ := hK k (by omega)
      have e2 : letterlockref2_TakeAll.l0 k most (n : Int) (B (takeTextL r most).2.1) (acc ++ [B (takeTextL r most).1]) ((i + 1 : Nat) : Int) = _ := hK2 k (by omega)
      show letterlockref2_TakeAll.l0 (k + 1) most (n : Int) (B r) acc (i : Int) = _
      rw [letterlockref2_TakeAll.l0, if_pos (by omega), e1, Option.bind_some]
      unfold tt
      rw [if_pos he, if_pos (by omega), wu64 _ (by omega) (by omega), show (i : Int) + 1 = ((i + 1 : Nat) : Int) from by omega, e2]
      rw [takeRowL, if_pos he]
      by_cases h2 : (takeRowL most m (takeTextL r most).2.1).2 = 0
      · rw [if_pos h2, if_pos h2, if_pos rfl]
        simp
      · rw [if_neg h2, if_neg h2, if_neg h2]
    · refine ⟨K + 1, fun k hk => ?_⟩
      obtain ⟨k, rfl⟩ : ∃ m, k = m + 1 := ⟨k - 1, by omega⟩
      have e1 : letterlockref2_TakeText.f k (B r) most = _ := hK k (by omega)
      show letterlockref2_TakeAll.l0 (k + 1) most (n : Int) (B r) acc (i : Int) = _
      rw [letterlockref2_TakeAll.l0, if_pos (by omega), e1, Option.bind_some]
      unfold tt
      rw [if_neg he, takeRowL, if_neg he, if_neg he]
theorem letterlockref2_TakeAll.ev (s : List UInt8) (many most : Int) (hs : s.length ≤ 1000000) (h0 : -9223372036854775808 ≤ most) (h1 : most ≤ 9223372036854775807) (h2 : -9223372036854775808 ≤ many) (h3 : many ≤ 9223372036854775807) :
    Ev (fun k => letterlockref2_TakeAll.f k (B s) many most) (ta (takeAllL s many most)) := by
  obtain ⟨K1, hK1⟩ := letterlockref2_Take.ev s (by omega)
  unfold takeAllL
  cases ht : takeL s with
  | none =>
    rw [ht] at hK1
    refine ⟨K1, fun k hk => ?_⟩
    have e : letterlockref2_Take.f k (B s) = _ := hK1 k hk
    show letterlockref2_TakeAll.f k (B s) many most = _
    unfold letterlockref2_TakeAll.f
    rw [e, Option.bind_some, if_neg (by decide)]
    rfl
  | some p =>
    obtain ⟨n, r⟩ := p
    rw [ht] at hK1
    have hn := (takeL_some s n r ht).2
    have hl := takeL_len s n r ht
    have hm : IntKind.u64.wrap (mx many 0) = if 0 ≤ many then many else 0 := by
      rw [mx0]; split <;> rw [wu64 _ (by omega) (by omega)]
    by_cases hc : many < (n : Int) ∧ 0 < n
    · refine ⟨K1, fun k hk => ?_⟩
      have e : letterlockref2_Take.f k (B s) = _ := hK1 k hk
      show letterlockref2_TakeAll.f k (B s) many most = _
      unfold letterlockref2_TakeAll.f
      rw [e, Option.bind_some, if_pos rfl, hm]
      simp only
      rw [if_pos hc, if_pos (by split <;> omega)]
      rfl
    · obtain ⟨K, hK⟩ := ref2_takeAll_loop most h0 h1 n n 0 r [] (by omega) (by omega) (by rw [List.length_nil]; omega)
      refine ⟨K1 + K, fun k hk => ?_⟩
      have e : letterlockref2_Take.f k (B s) = _ := hK1 k (by omega)
      have e2 : letterlockref2_TakeAll.l0 k most (n : Int) (B r) [] 0 = _ := hK k (by omega)
      have hc2 : ¬ ((n : Int) > if 0 ≤ many then many else 0) := by split <;> omega
      show letterlockref2_TakeAll.f k (B s) many most = _
      unfold letterlockref2_TakeAll.f
      rw [e, Option.bind_some, if_pos rfl, hm]
      simp only
      rw [if_neg hc, if_neg hc2, e2]
      unfold ta
      by_cases h : (takeRowL most n r).2 = 0
      · rw [if_pos h, h]; simp
      · rw [if_neg h, takeRowL_err most n r h]; rfl
theorem ref2_putAll_loop (l : List (List UInt8)) (hl : heavy l ≤ 1000000000) : ∀ (m i : Nat) (acc : List UInt8), l.length = i + m → acc.length + heavy (l.drop i) ≤ 2000000000 →
    Ev (fun k => letterlockref2_PutAll.l0 k (l.map B) (B acc) (i : Int)) (B (acc ++ ((l.drop i).map textL).flatten)) := by
  intro m
  induction m with
  | zero =>
    intro i acc hi h1
    refine ⟨1, fun k hk => ?_⟩
    obtain ⟨k, rfl⟩ : ∃ m, k = m + 1 := ⟨k - 1, by omega⟩
    show letterlockref2_PutAll.l0 (k + 1) (l.map B) (B acc) (i : Int) = _
    rw [letterlockref2_PutAll.l0, if_neg (by rw [List.length_map]; omega), List.drop_of_length_le (by omega)]
    simp
  | succ m ih =>
    intro i acc hi h1
    have hd := drop_getD l i [] (by omega)
    have hh := heavy_drop l i
    have hlen := heavy_len l
    rw [hd, heavy_cons] at hh h1
    obtain ⟨K, hK⟩ := letterlockref2_PutText.ev (l.getD i []) (by omega)
    have ht := textL_len (l.getD i []) (by omega)
    obtain ⟨K2, hK2⟩ := ih (i + 1) (acc ++ textL (l.getD i [])) (by omega) (by rw [List.length_append]; omega)
    refine ⟨K + K2 + 1, fun k hk => ?_⟩
    obtain ⟨k, rfl⟩ : ∃ m, k = m + 1 := ⟨k - 1, by omega⟩
    have e1 : letterlockref2_PutText.f k (B (l.getD i [])) = _ := hK k (by omega)
    have e2 : letterlockref2_PutAll.l0 k (l.map B) (B (acc ++ textL (l.getD i []))) ((i + 1 : Nat) : Int) = _ := hK2 k (by omega)
    show letterlockref2_PutAll.l0 (k + 1) (l.map B) (B acc) (i : Int) = _
    rw [letterlockref2_PutAll.l0, if_pos (by rw [List.length_map]; omega), if_pos (by omega), rdOf_B, e1, Option.bind_some, if_pos (by rw [size_B, size_B]; omega), w64 _ (by omega) (by omega),
      show (i : Int) + 1 = ((i + 1 : Nat) : Int) from by omega, append_B, e2, hd]
    simp
theorem letterlockref2_PutAll.ev (l : List (List UInt8)) (hl : heavy l ≤ 1000000000) : Ev (fun k => letterlockref2_PutAll.f k (l.map B)) (B (rowL l)) := by
  have hn := heavy_len l
  have he := encN_len l.length (by omega)
  obtain ⟨K, hK⟩ := letterlockref2_Put.ev l.length (by omega)
  obtain ⟨K2, hK2⟩ := ref2_putAll_loop l hl l.length 0 (encN l.length) (by omega) (by simp; omega)
  refine ⟨K + K2, fun k hk => ?_⟩
  have e : letterlockref2_Put.f k ((l.length : Nat) : Int) = _ := hK k (by omega)
  have e2 : letterlockref2_PutAll.l0 k (l.map B) (B (encN l.length)) 0 = _ := hK2 k (by omega)
  show letterlockref2_PutAll.f k (l.map B) = _
  unfold letterlockref2_PutAll.f
  rw [List.length_map, wu64 _ (by omega) (by omega), e, Option.bind_some, e2]
  unfold rowL
  simp
end Go.Proofs.YtodiffgpefidoaaGreatDoor.P

