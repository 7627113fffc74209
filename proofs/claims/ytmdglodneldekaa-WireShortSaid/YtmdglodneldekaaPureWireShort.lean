/- A text's bytes that are cut off are none; a bound that is too little is told ahead of that, whatever is behind the number; for every text of at most 1000 bytes (others are not spoken of), every cut and bound. -/
import Derived.Test.YtmdglodneldekaaELaw2
import Derived.Test.YtmdglodneldekaaSpecR
import Derived.Test.YtmdglodneldekaaGLWireShort
namespace Go.Proofs.Ytmdglodneldekaa.Pure
set_option linter.unusedVariables false
set_option linter.unusedSimpArgs false
open Go.RowKit Go.Proofs.Ytmdglodneldekaa.P Go.Proofs.YtmdglodneldekaaW.PrintWords Go.Proofs.YtmdglodneldekaaW.PrintLast Go.Proofs.YtmdglodneldekaaW.PrintMore
theorem short_end (t : List UInt8) (ht : t.length ≤ 1000) (most : Int) (h0 : -9223372036854775808 ≤ most) (h1 : most ≤ 9223372036854775807) (c : Int) (hc0 : 0 ≤ c) (hc1 : c ≤ 9223372036854775807) :
    Ev (fun k => letterlocklaw2_WireShort.j1 k (B t) most (B (textL t)) c) true := by
  have hl := textL_len t (by omega)
  have he := encN_len t.length (by omega)
  have hlen : (textL t).length = (encN t.length).length + t.length := by unfold textL; rw [List.length_append]
  obtain ⟨q, hq, hq2⟩ : ∃ q : Nat, Int.tmod c ((textL t).length : Int) = (q : Int) ∧ q < (textL t).length := by
    refine ⟨(Int.tmod c ((textL t).length : Int)).toNat, ?_⟩
    rw [Int.tmod_eq_emod_of_nonneg hc0]
    have h2 := Int.emod_nonneg c (show ((textL t).length : Int) ≠ 0 by omega)
    have h3 := Int.emod_lt_of_pos c (show (0 : Int) < ((textL t).length : Int) by omega)
    exact ⟨by omega, by omega⟩
  obtain ⟨K1, e1⟩ := wire_Put.ev t.length (by omega)
  obtain ⟨K2, e2⟩ := wire_TakeText.ev ((textL t).take q) most h0 h1
  refine ⟨K1 + K2 + 1, fun k hk => ?_⟩
  obtain ⟨k, rfl⟩ : ∃ m, k = m + 1 := ⟨k - 1, by omega⟩
  have g1 : wire_Put.f k ((t.length : Nat) : Int) = _ := e1 k (by omega)
  have g2 : wire_TakeText.f k (B ((textL t).take q)) most = _ := e2 k (by omega)
  have hx : (B (textL t)).extract 0 q = B ((textL t).take q) := by rw [extract_B, List.drop_zero]
  show letterlocklaw2_WireShort.j1 (k + 1) (B t) most (B (textL t)) c = _
  have hm : ((t.length : Nat) : Int) > mx most 0 ↔ (most < (t.length : Int) ∧ 0 < t.length) := by
    rw [mx0]; split <;> omega
  have hcut := takeTextL_cut t q most (by omega) hq2
  have fin : (some ((B []).toList == ([] : List UInt8))) = some true := by rw [toList_B]; rfl
  rw [letterlocklaw2_WireShort.j1, size_B, wu64 _ (by omega) (by omega), g1, Option.bind_some, toList_B, if_neg (by intro e; rw [e] at hlen; simp at hlen; omega), size_B, if_neg (by omega), hq, if_pos (by omega), if_pos (by omega), Int.toNat_natCast, hx, g2, Option.bind_some, hcut, size_B]
  by_cases h : (encN t.length).length ≤ q
  · rw [if_pos (by omega)]
    by_cases h2 : most < (t.length : Int) ∧ 0 < t.length
    · rw [if_pos (hm.mpr h2), show (if (encN t.length).length ≤ q ∧ most < (t.length : Int) ∧ 0 < t.length then (10 : Int) else 2) = 10 from if_pos ⟨h, h2⟩]
      unfold tt
      rw [if_pos rfl, if_pos (toList_B [])]
      exact fin
    · rw [if_neg (fun h => h2 (hm.mp h)), show (if (encN t.length).length ≤ q ∧ most < (t.length : Int) ∧ 0 < t.length then (10 : Int) else 2) = 2 from if_neg (fun h => h2 h.2)]
      unfold tt
      rw [if_pos rfl, if_pos (toList_B [])]
      exact fin
  · rw [if_neg (by omega), show (if (encN t.length).length ≤ q ∧ most < (t.length : Int) ∧ 0 < t.length then (10 : Int) else 2) = 2 from if_neg (fun h2 => h h2.1)]
    unfold tt
    rw [if_pos rfl, if_pos (toList_B [])]
    exact fin
theorem WireShort : letterlocklaw2_WireShort.Pure := by
  intro a0 cut most hsz w1 w2
  obtain ⟨t, rfl, hs⟩ := ofB a0
  obtain ⟨h2, h3⟩ := wfi64 w1
  obtain ⟨h0, h1⟩ := wfi64 w2
  obtain ⟨K0, e0⟩ := letterlocklaw2_shown.ev
  by_cases hb : t.length ≤ 1000
  · obtain ⟨K1, e1⟩ := wire_PutText.ev t (by omega)
    obtain ⟨K2, e2⟩ := short_end t hb most h0 h1 (if cut < 0 then -(cut + 1) else cut) (by split <;> omega) (by split <;> omega)
    refine ⟨K0 + K1 + K2 + 1, ?_⟩
    generalize hk : K0 + K1 + K2 = k
    have g0 : letterlocklaw2_shown.f (k + 1) = _ := e0 (k + 1) (by omega)
    have g1 : wire_PutText.f k (B t) = _ := e1 k (by omega)
    have g2 : letterlocklaw2_WireShort.j1 k (B t) most (B (textL t)) (if cut < 0 then -(cut + 1) else cut) = _ := e2 k (by omega)
    unfold letterlocklaw2_WireShort.f
    rw [g0, Option.bind_some, if_pos rfl, letterlocklaw2_WireShort.j0, if_neg (by rw [decide_eq_true_iff, size_B]; omega), g1, Option.bind_some]
    by_cases hc : cut < 0
    · rw [if_pos hc] at g2 ⊢
      rw [w64 (cut + 1) (by omega) (by omega), w64 _ (by omega) (by omega)]
      exact g2
    · rw [if_neg hc] at g2 ⊢
      exact g2
  · refine ⟨K0 + 1, ?_⟩
    have g0 : letterlocklaw2_shown.f (K0 + 1) = _ := e0 (K0 + 1) (by omega)
    unfold letterlocklaw2_WireShort.f
    rw [g0, Option.bind_some, if_pos rfl, letterlocklaw2_WireShort.j0, if_pos (by rw [decide_eq_true_iff, size_B]; omega)]
end Go.Proofs.Ytmdglodneldekaa.Pure
