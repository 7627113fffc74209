/- The bytes of a number have no other number's as their beginning; they are as few as can be: one, and as many as the number has, without noughts ahead; for every two numbers. -/
import Derived.Test.YtmdglodneldekaaELaw2
import Derived.Test.YtmdglodneldekaaGLWireFirst
namespace Go.Proofs.Ytmdglodneldekaa.Pure
set_option linter.unusedVariables false
set_option linter.unusedSimpArgs false
open Go.RowKit Go.Proofs.Ytmdglodneldekaa.P Go.Proofs.YtmdglodneldekaaW.PrintWords Go.Proofs.YtmdglodneldekaaW.PrintLast
/-- What stands behind the loop: 'many' is told then. -/
def firstEnd (x0 x1 : Int) (x6 x7 : ByteArray) (x8 : Int) : Option Bool := letterlocklaw2_WireFirst.l0 1 x0 x1 x6 x7 x8 0
theorem first_loop (x0 x1 : Int) (x6 x7 : ByteArray) : ∀ (m n i k : Nat), (digs n).length = m → n < 18446744073709551616 → i + m ≤ 1000 → m < k →
    letterlocklaw2_WireFirst.l0 k x0 x1 x6 x7 (i : Int) (n : Int) = firstEnd x0 x1 x6 x7 ((i + m : Nat) : Int) := by
  intro m
  induction m with
  | zero =>
    intro n i k hm hn hi hk
    obtain ⟨k, rfl⟩ : ∃ m, k = m + 1 := ⟨k - 1, by omega⟩
    have h0 : n = 0 := by
      rcases Nat.eq_zero_or_pos n with h | h
      · exact h
      · exact absurd (List.eq_nil_of_length_eq_zero hm) (digs_ne n h)
    subst h0
    unfold firstEnd
    simp only [letterlocklaw2_WireFirst.l0, if_neg (show ¬ (((0 : Nat) : Int) > 0) by decide), if_neg (show ¬ ((0 : Int) > 0) by decide), Nat.add_zero]
  | succ m ih =>
    intro n i k hm hn hi hk
    obtain ⟨k, rfl⟩ : ∃ m, k = m + 1 := ⟨k - 1, by omega⟩
    have hp : 0 < n := by
      rcases Nat.eq_zero_or_pos n with rfl | hp
      · rw [digs_zero] at hm; simp at hm
      · exact hp
    have hm' : (digs (n / 256)).length = m := by rw [digs_pos n hp, List.length_append] at hm; simpa using hm
    rw [letterlocklaw2_WireFirst.l0, if_pos (by omega), w64 _ (by omega) (by omega), Int.tdiv_eq_ediv_of_nonneg (by omega), show (n : Int) / 256 = ((n / 256 : Nat) : Int) from by omega, wu64 _ (by omega) (by omega),
      show (i : Int) + 1 = ((i + 1 : Nat) : Int) from by omega, ih (n / 256) (i + 1) k hm' (by omega) (by omega) (by omega), show i + 1 + m = i + (m + 1) from by omega]
theorem prefix_iff (a b : Nat) (ha : a < 18446744073709551616) (hb : b < 18446744073709551616) : ((encN b).take (encN a).length = encN a) ↔ a = b := by
  constructor
  · intro h
    have h1 : encN b = encN a ++ (encN b).drop (encN a).length := by
      have e := List.take_append_drop (encN a).length (encN b)
      rw [h] at e
      exact e.symm
    have h2 := takeL_encN b [] hb
    rw [List.append_nil, h1, takeL_encN a _ ha] at h2
    simp only [Option.some.injEq, Prod.mk.injEq] at h2
    exact h2.1
  · rintro rfl
    exact List.take_length
theorem WireFirst : letterlocklaw2_WireFirst.Pure := by
  intro a b w0 w1
  obtain ⟨a, rfl, ha⟩ := wf64 w0
  obtain ⟨b, rfl, hb⟩ := wf64 w1
  obtain ⟨K0, e0⟩ := letterlocklaw2_shown.ev
  obtain ⟨K1, e1⟩ := wire_Put.ev a ha
  obtain ⟨K2, e2⟩ := wire_Put.ev b hb
  have h8 := digs_len8 a ha
  refine ⟨K0 + K1 + K2 + 10, ?_⟩
  generalize hk : K0 + K1 + K2 + 10 = k
  have g0 : letterlocklaw2_shown.f k = _ := e0 k (by omega)
  have g1 : wire_Put.f k (a : Int) = _ := e1 k (by omega)
  have g2 : wire_Put.f k (b : Int) = _ := e2 k (by omega)
  unfold letterlocklaw2_WireFirst.f
  rw [g0, Option.bind_some, if_pos rfl, g1, Option.bind_some, g2, Option.bind_some]
  have L := first_loop (a : Int) (b : Int) (B (encN a)) (B (encN b)) (digs a).length a 0 k rfl ha (by omega) (by omega)
  refine Eq.trans L ?_
  have hlen : (encN a).length = 1 + (digs a).length := by unfold encN; rw [List.length_cons]; omega
  have b0 : bt (B (encN a)) 0 = (((digs a).length : Nat) : Int) := by
    rw [bt_B]
    unfold encN
    simp only [Int.toNat_zero, List.getD_cons_zero]
    rw [toNat_ofNat _ (by omega)]
  have hpre := prefix_iff a b ha hb
  have key : ((((B (encN b)).extract 0 (((B (encN a)).size : Nat) : Int).toNat).toList == (B (encN a)).toList) == (((a : Int)) == (b : Int))) = true := by
    rw [size_B, Int.toNat_natCast, extract_B, List.drop_zero, toList_B, toList_B, beq_iff_eq, Bool.eq_iff_iff, beq_iff_eq, beq_iff_eq, hpre]
    omega
  have key2 : (encN b).length < (encN a).length → (false == (((a : Int)) == (b : Int))) = true := by
    intro h
    have : ¬ (a : Int) = (b : Int) := by
      intro e
      have e2 : a = b := by omega
      subst e2
      omega
    simpa using this
  unfold firstEnd
  rw [letterlocklaw2_WireFirst.l0, if_neg (by omega), Nat.zero_add, if_pos (by rw [size_B, hlen, w64 _ (by omega) (by omega)]; omega), if_pos (by rw [size_B, hlen]; omega), b0, if_pos (w64 _ (by omega) (by omega))]
  have tail : (if ((B (encN b)).size : Int) ≥ ((B (encN a)).size : Int) then (if 0 ≤ ((B (encN a)).size : Int) then (if ((B (encN a)).size : Int) ≤ ((B (encN b)).size : Int) then (some ((((B (encN b)).extract 0 (((B (encN a)).size : Int) : Int).toNat).toList == (B (encN a)).toList) == (((a : Int)) == (b : Int)))) else (none)) else (none)) else (some (false == (((a : Int)) == (b : Int))))) = some true := by
    by_cases h : (encN b).length < (encN a).length
    · rw [if_neg (by rw [size_B, size_B]; omega), key2 h]
    · rw [if_pos (by rw [size_B, size_B]; omega), if_pos (by omega), if_pos (by rw [size_B, size_B]; omega), key]
  by_cases hp : 0 < a
  · have hd := digs_head a hp
    have hne := digs_ne a hp
    have hdl : 0 < (digs a).length := List.length_pos_iff.mpr hne
    have b1 : ¬ bt (B (encN a)) 1 = 0 := by
      rw [bt_B]
      unfold encN
      intro e
      apply hd
      apply UInt8.toNat_inj.mp
      simpa using e
    rw [if_pos (by omega), if_pos (by rw [size_B, hlen]; omega), if_neg b1]
    exact tail
  · obtain rfl : a = 0 := by omega
    rw [if_neg (by rw [digs_zero]; decide)]
    exact tail
end Go.Proofs.Ytmdglodneldekaa.Pure
