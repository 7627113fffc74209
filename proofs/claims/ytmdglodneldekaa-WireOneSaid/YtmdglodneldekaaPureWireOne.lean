/- What is taken was put so: there is just one form of each number, text and row; for every bytes of at most 4000 (others are not spoken of). -/
import Derived.Test.YtmdglodneldekaaELaw2
import Derived.Test.YtmdglodneldekaaSpecR
import Derived.Test.YtmdglodneldekaaGLWireOne
namespace Go.Proofs.Ytmdglodneldekaa.Pure
set_option linter.unusedVariables false
set_option linter.unusedSimpArgs false
open Go.RowKit Go.Proofs.Ytmdglodneldekaa.P Go.Proofs.YtmdglodneldekaaW.PrintWords Go.Proofs.YtmdglodneldekaaW.PrintLast
theorem takeAllL_err (s : List UInt8) (many most : Int) (h : (takeAllL s many most).2 ≠ 0) : (takeAllL s many most).1 = [] := by
  revert h
  unfold takeAllL
  cases ht : takeL s with
  | none => intro _; rfl
  | some p =>
    obtain ⟨n, r⟩ := p
    simp only
    split
    · intro _; rfl
    · exact takeRowL_err most n r
theorem row_heavy (l : List (List UInt8)) : heavy l ≤ 9 * (rowL l).length := by
  have key : ∀ l : List (List UInt8), heavy l ≤ 9 * (l.map textL).flatten.length := by
    intro l
    induction l with
    | nil => simp [heavy]
    | cons x l ih =>
      rw [heavy_cons, List.map_cons, List.flatten_cons, List.length_append]
      have : x.length + 1 ≤ (textL x).length := by unfold textL encN; rw [List.length_append, List.length_cons]; omega
      omega
  have := key l
  unfold rowL
  rw [List.length_append]
  omega
theorem one_last (s : List UInt8) (hs : s.length ≤ 4000) : Ev (fun k => letterlocklaw2_WireOne.j2 k (B s) false) true := by
  obtain ⟨K1, e1⟩ := wire_TakeAll.ev s 4000 4000 (by omega) (by omega) (by omega) (by omega) (by omega)
  by_cases h : (takeAllL s 4000 4000).2 = 0
  · have hr := takeAllL_some s 4000 4000 h
    have hh := row_heavy (takeAllL s 4000 4000).1
    rw [hr] at hh
    obtain ⟨K2, e2⟩ := wire_PutAll.ev (takeAllL s 4000 4000).1 (by omega)
    rw [hr] at e2
    refine ⟨K1 + K2 + 1, fun k hk => ?_⟩
    obtain ⟨k, rfl⟩ : ∃ m, k = m + 1 := ⟨k - 1, by omega⟩
    have g1 : wire_TakeAll.f k (B s) 4000 4000 = _ := e1 k (by omega)
    have g2 : wire_PutAll.f k ((takeAllL s 4000 4000).1.map B) = _ := e2 k (by omega)
    show letterlocklaw2_WireOne.j2 (k + 1) (B s) false = _
    rw [letterlocklaw2_WireOne.j2, if_neg (by decide), g1, Option.bind_some]
    unfold ta
    rw [if_pos h, g2, Option.bind_some, if_pos rfl]
  · have hr := takeAllL_err s 4000 4000 h
    refine ⟨K1 + 1, fun k hk => ?_⟩
    obtain ⟨k, rfl⟩ : ∃ m, k = m + 1 := ⟨k - 1, by omega⟩
    have g1 : wire_TakeAll.f k (B s) 4000 4000 = _ := e1 k (by omega)
    show letterlocklaw2_WireOne.j2 (k + 1) (B s) false = _
    rw [letterlocklaw2_WireOne.j2, if_neg (by decide), g1, Option.bind_some]
    unfold ta
    rw [if_neg h, hr]
    rfl
theorem one_text (s : List UInt8) (hs : s.length ≤ 4000) : Ev (fun k => letterlocklaw2_WireOne.j1 k (B s) false) true := by
  obtain ⟨K1, e1⟩ := wire_TakeText.ev s 4000 (by omega) (by omega)
  obtain ⟨K3, e3⟩ := one_last s hs
  by_cases h : (takeTextL s 4000).2.2 = 0
  · obtain ⟨h1, h2, h3⟩ := takeTextL_some s 4000 h
    have h4 : (takeTextL s 4000).1.length ≤ 4000 := by rw [if_pos (by decide)] at h3; omega
    obtain ⟨K2, e2⟩ := wire_PutText.ev (takeTextL s 4000).1 (by omega)
    have hl := congrArg List.length h1
    rw [List.length_append] at hl
    refine ⟨K1 + K2 + K3 + 1, fun k hk => ?_⟩
    obtain ⟨k, rfl⟩ : ∃ m, k = m + 1 := ⟨k - 1, by omega⟩
    have g1 : wire_TakeText.f k (B s) 4000 = _ := e1 k (by omega)
    have g2 : wire_PutText.f k (B (takeTextL s 4000).1) = _ := e2 k (by omega)
    have g3 : letterlocklaw2_WireOne.j2 k (B s) false = _ := e3 k (by omega)
    show letterlocklaw2_WireOne.j1 (k + 1) (B s) false = _
    rw [letterlocklaw2_WireOne.j1, if_neg (by decide), g1, Option.bind_some]
    unfold tt
    simp only
    rw [if_pos h, g2, Option.bind_some, size_B, size_B, if_pos (by omega), append_B, ← h1, if_pos rfl, g3]
  · obtain ⟨h1, h2⟩ := takeTextL_err s 4000 h
    refine ⟨K1 + K3 + 1, fun k hk => ?_⟩
    obtain ⟨k, rfl⟩ : ∃ m, k = m + 1 := ⟨k - 1, by omega⟩
    have g1 : wire_TakeText.f k (B s) 4000 = _ := e1 k (by omega)
    have g3 : letterlocklaw2_WireOne.j2 k (B s) false = _ := e3 k (by omega)
    show letterlocklaw2_WireOne.j1 (k + 1) (B s) false = _
    rw [letterlocklaw2_WireOne.j1, if_neg (by decide), g1, Option.bind_some]
    unfold tt
    simp only
    rw [if_neg h, h1, h2, toList_B, if_pos rfl, show (([] : List UInt8) != []) = false from rfl, g3]
theorem one_number (s : List UInt8) (hs : s.length ≤ 4000) : Ev (fun k => letterlocklaw2_WireOne.j0 k (B s) true false) true := by
  obtain ⟨K3, e3⟩ := one_text s hs
  cases ht : takeL s with
  | none =>
    refine ⟨K3 + 1, fun k hk => ?_⟩
    obtain ⟨k, rfl⟩ : ∃ m, k = m + 1 := ⟨k - 1, by omega⟩
    have g3 : letterlocklaw2_WireOne.j1 k (B s) false = _ := e3 k (by omega)
    show letterlocklaw2_WireOne.j0 (k + 1) (B s) true false = _
    rw [letterlocklaw2_WireOne.j0, if_neg (by decide), wire_Take.of, ht]
    simp only
    rw [Option.bind_some, if_neg (by decide), if_pos rfl, if_pos rfl, toList_B, show (([] : List UInt8) != []) = false from rfl, g3]
  | some p =>
    obtain ⟨n, r⟩ := p
    obtain ⟨h1, hn⟩ := takeL_some s n r ht
    have hl := congrArg List.length h1
    rw [List.length_append] at hl
    obtain ⟨K2, e2⟩ := wire_Put.ev n hn
    refine ⟨K2 + K3 + 1, fun k hk => ?_⟩
    obtain ⟨k, rfl⟩ : ∃ m, k = m + 1 := ⟨k - 1, by omega⟩
    have g2 : wire_Put.f k (n : Int) = _ := e2 k (by omega)
    have g3 : letterlocklaw2_WireOne.j1 k (B s) false = _ := e3 k (by omega)
    show letterlocklaw2_WireOne.j0 (k + 1) (B s) true false = _
    rw [letterlocklaw2_WireOne.j0, if_neg (by decide), wire_Take.of, ht]
    simp only
    rw [Option.bind_some, if_pos rfl, g2, Option.bind_some, size_B, size_B, if_pos (by omega), append_B, ← h1, if_pos rfl, g3]
theorem WireOne : letterlocklaw2_WireOne.Pure := by
  intro a0 hsz
  obtain ⟨s, rfl, hs⟩ := ofB a0
  obtain ⟨K0, e0⟩ := letterlocklaw2_shown.ev
  by_cases hb : s.length ≤ 4000
  · obtain ⟨K1, e1⟩ := one_number s hb
    refine ⟨K0 + K1, ?_⟩
    have g0 : letterlocklaw2_shown.f (K0 + K1) = _ := e0 _ (by omega)
    have g1 : letterlocklaw2_WireOne.j0 (K0 + K1) (B s) true false = _ := e1 _ (by omega)
    unfold letterlocklaw2_WireOne.f
    rw [g0, Option.bind_some, if_pos rfl, show decide (((B s).size : Int) > 4000) = false from by rw [decide_eq_false_iff_not, size_B]; omega, g1]
  · refine ⟨K0 + 1, ?_⟩
    have g0 : letterlocklaw2_shown.f (K0 + 1) = _ := e0 (K0 + 1) (by omega)
    unfold letterlocklaw2_WireOne.f
    rw [g0, Option.bind_some, if_pos rfl, letterlocklaw2_WireOne.j0, if_pos (by rw [decide_eq_true_iff, size_B]; omega)]
end Go.Proofs.Ytmdglodneldekaa.Pure
