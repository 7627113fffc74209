/- Slimmed by wip/slim.py. -/
import Derived.Test.YtodiffgpefidoaaDoorEWire
namespace Go.Proofs.YtodiffgpefidoaaDoor.P
open Go.RowKit Go.Proofs.YtodiffgpefidoaaDoorW.PrintWords Go.Proofs.YtodiffgpefidoaaDoorW.PrintLast Go.Proofs.YtodiffgpefidoaaDoorW.PrintMore
set_option linter.unusedVariables false
set_option linter.unusedSimpArgs false
def ta (p : List (List UInt8) × Int) : List ByteArray × Int := (p.1.map B, p.2)
theorem takeAll_loop (most : Int) (h0 : -9223372036854775808 ≤ most) (h1 : most ≤ 9223372036854775807) : ∀ (m n i : Nat) (r : List UInt8) (acc : List ByteArray), n = i + m → n ≤ 9223372036854775807 → acc.length + r.length ≤ 1000000 →
    Ev (fun k => wire_TakeAll.l0 k most (B r) acc (n : Int) (i : Int)) (if (takeRowL most m r).2 = 0 then (acc ++ (takeRowL most m r).1.map B, 0) else ([], (takeRowL most m r).2)) := by
  intro m
  induction m with
  | zero =>
    intro n i r acc hn hb hl
    refine ⟨1, fun k hk => ?_⟩
    obtain ⟨k, rfl⟩ : ∃ m, k = m + 1 := ⟨k - 1, by omega⟩
    show wire_TakeAll.l0 (k + 1) most (B r) acc (n : Int) (i : Int) = _
    rw [wire_TakeAll.l0, if_neg (by omega), toList_B]
    unfold takeRowL
    by_cases hr : r = []
    · rw [if_pos hr, if_pos hr, if_pos rfl]
      simp
    · rw [if_neg hr, if_neg hr, if_neg (by decide)]
  | succ m ih =>
    intro n i r acc hn hb hl
    obtain ⟨K, hK⟩ := wire_TakeText.ev r most h0 h1
    by_cases he : (takeTextL r most).2.2 = 0
    · have hlen := takeTextL_len r most he
      obtain ⟨K2, hK2⟩ := ih n (i + 1) (takeTextL r most).2.1 (acc ++ [B (takeTextL r most).1]) (by omega) hb (by rw [List.length_append, List.length_singleton]; omega)
      refine ⟨K + K2 + 1, fun k hk => ?_⟩
      obtain ⟨k, rfl⟩ : ∃ m, k = m + 1 := ⟨k - 1, by omega⟩
      have e1 : wire_TakeText.f k (B r) most = _ := hK k (by omega)
      have e2 : wire_TakeAll.l0 k most (B (takeTextL r most).2.1) (acc ++ [B (takeTextL r most).1]) (n : Int) ((i + 1 : Nat) : Int) = _ := hK2 k (by omega)
      show wire_TakeAll.l0 (k + 1) most (B r) acc (n : Int) (i : Int) = _
      rw [wire_TakeAll.l0, if_pos (by omega), e1, Option.bind_some]
      unfold tt
      rw [if_pos he, if_pos (by omega), w64 _ (by omega) (by omega), show (i : Int) + 1 = ((i + 1 : Nat) : Int) from by omega, e2]
      rw [takeRowL, if_pos he]
      by_cases h2 : (takeRowL most m (takeTextL r most).2.1).2 = 0
      · rw [if_pos h2, if_pos h2, if_pos rfl]
        simp
      · rw [if_neg h2, if_neg h2, if_neg h2]
    · refine ⟨K + 1, fun k hk => ?_⟩
      obtain ⟨k, rfl⟩ : ∃ m, k = m + 1 := ⟨k - 1, by omega⟩
      have e1 : wire_TakeText.f k (B r) most = _ := hK k (by omega)
      show wire_TakeAll.l0 (k + 1) most (B r) acc (n : Int) (i : Int) = _
      rw [wire_TakeAll.l0, if_pos (by omega), e1, Option.bind_some]
      unfold tt
      rw [if_neg he, takeRowL, if_neg he, if_neg he]
theorem takeRowL_err (most : Int) : ∀ (m : Nat) (r : List UInt8), (takeRowL most m r).2 ≠ 0 → (takeRowL most m r).1 = [] := by
  intro m
  cases m with
  | zero => intro r; unfold takeRowL; split <;> simp
  | succ m =>
    intro r
    rw [takeRowL]
    split
    · split
      · intro h; exact absurd rfl h
      · intro _; rfl
    · intro _; rfl
theorem wire_TakeAll.ev (s : List UInt8) (many most : Int) (hs : s.length ≤ 1000000) (h0 : -9223372036854775808 ≤ most) (h1 : most ≤ 9223372036854775807) (h2 : -9223372036854775808 ≤ many) (h3 : many ≤ 9223372036854775807) :
    Ev (fun k => wire_TakeAll.f k (B s) many most) (ta (takeAllL s many most)) := by
  unfold takeAllL
  cases ht : takeL s with
  | none =>
    refine ⟨0, fun k hk => ?_⟩
    show wire_TakeAll.f k (B s) many most = _
    unfold wire_TakeAll.f
    rw [wire_limited.of s many h2 h3, ht, Option.bind_some, if_neg (by decide)]
    rfl
  | some p =>
    obtain ⟨n, r⟩ := p
    have hn := (takeL_some s n r ht).2
    have hl := takeL_len s n r ht
    by_cases hc : many < (n : Int) ∧ 0 < n
    · refine ⟨0, fun k hk => ?_⟩
      show wire_TakeAll.f k (B s) many most = _
      unfold wire_TakeAll.f
      rw [wire_limited.of s many h2 h3, ht]
      simp only
      rw [if_pos hc, if_pos hc, Option.bind_some, if_neg (by decide)]
      rfl
    · obtain ⟨K, hK⟩ := takeAll_loop most h0 h1 n n 0 r [] (by omega) (by omega) (by rw [List.length_nil]; omega)
      refine ⟨K, fun k hk => ?_⟩
      have e : wire_TakeAll.l0 k most (B r) [] (n : Int) 0 = _ := hK k hk
      show wire_TakeAll.f k (B s) many most = _
      unfold wire_TakeAll.f
      rw [wire_limited.of s many h2 h3, ht]
      simp only
      rw [if_neg hc, if_neg hc, Option.bind_some, if_pos rfl, e]
      unfold ta
      by_cases h : (takeRowL most n r).2 = 0
      · rw [if_pos h, h]; simp
      · rw [if_neg h, takeRowL_err most n r h]; rfl
end Go.Proofs.YtodiffgpefidoaaDoor.P

