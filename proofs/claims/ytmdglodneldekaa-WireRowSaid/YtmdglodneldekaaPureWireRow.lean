/- A row's bytes are its number's, and its texts', one behind the other; texts are taken off one by one, in order; for every few and short texts, and at most 1000 bytes behind (others are not spoken of). -/
import Derived.Test.YtmdglodneldekaaELaw2
import Derived.Test.YtmdglodneldekaaSpecR
import Derived.Test.YtmdglodneldekaaGLWireRow
namespace Go.Proofs.Ytmdglodneldekaa.Pure
set_option linter.unusedVariables false
set_option linter.unusedSimpArgs false
open Go.RowKit Go.Proofs.Ytmdglodneldekaa.P Go.Proofs.YtmdglodneldekaaW.PrintWords Go.Proofs.YtmdglodneldekaaW.PrintLast
theorem heavy_mem : ∀ (l : List (List UInt8)) (x : List UInt8), x ∈ l → x.length ≤ heavy l
  | y :: l, x, h => by
    rw [heavy_cons]
    rcases List.mem_cons.mp h with rfl | h
    · omega
    · have := heavy_mem l x h; omega
theorem row_len (l : List (List UInt8)) (h : heavy l ≤ 1000000) : (rowL l).length ≤ 9 + heavy l := by
  have h1 := heavy_flat l (by omega)
  have h2 := heavy_len l
  have h3 := encN_len l.length (by omega)
  unfold rowL
  rw [List.length_append]
  omega
theorem row_loop (l : List (List UInt8)) (rest : List UInt8) (hh : heavy l ≤ 4900) (h4 : ∀ x ∈ l, x.length ≤ 4000) (hr : rest.length ≤ 1000) : ∀ (m i : Nat), l.length = i + m →
    Ev (fun k => letterlocklaw2_WireRow.l0 k (l.map B) (B rest) (B (rowL l ++ rest)) (B (((l.drop i).map textL).flatten ++ rest)) (i : Int)) true := by
  intro m
  induction m with
  | zero =>
    intro i hi
    have hlen := heavy_len l
    have hrl := row_len l (by omega)
    obtain ⟨K1, e1⟩ := wire_TakeAll.ev (rowL l ++ rest) l.length 4000 (by rw [List.length_append]; omega) (by omega) (by omega) (by omega) (by omega)
    rw [takeAllL_put l rest 4000 (by omega) (fun x hx => ⟨by have := h4 x hx; omega, by have := h4 x hx; omega⟩)] at e1
    refine ⟨K1 + 1, fun k hk => ?_⟩
    obtain ⟨k, rfl⟩ : ∃ m, k = m + 1 := ⟨k - 1, by omega⟩
    have g1 : wire_TakeAll.f k (B (rowL l ++ rest)) (l.length : Int) 4000 = _ := e1 k (by omega)
    show letterlocklaw2_WireRow.l0 (k + 1) (l.map B) (B rest) (B (rowL l ++ rest)) (B (((l.drop i).map textL).flatten ++ rest)) (i : Int) = _
    rw [letterlocklaw2_WireRow.l0, if_neg (by rw [List.length_map]; omega), List.length_map, g1, Option.bind_some, List.drop_of_length_le (by omega), if_pos (by simp), toList_B]
    cases rest with
    | nil => rw [if_pos rfl]; rfl
    | cons a r => rw [if_neg (by simp)]; rfl
  | succ m ih =>
    intro i hi
    have hlen := heavy_len l
    have hd := drop_getD l i [] (by omega)
    have hx : (l.getD i []).length ≤ 4000 := by
      apply h4
      have : l.getD i [] ∈ l.drop i := by rw [hd]; exact List.mem_cons_self
      exact List.mem_of_mem_drop this
    obtain ⟨K1, e1⟩ := wire_TakeText.ev (((l.drop i).map textL).flatten ++ rest) ((l.getD i []).length : Int) (by omega) (by omega)
    obtain ⟨K2, e2⟩ := ih (i + 1) (by omega)
    rw [hd, List.map_cons, List.flatten_cons, List.append_assoc] at e1 ⊢
    rw [takeTextL_textL _ _ _ (by omega), if_neg (by omega)] at e1
    refine ⟨K1 + K2 + 1, fun k hk => ?_⟩
    obtain ⟨k, rfl⟩ : ∃ m, k = m + 1 := ⟨k - 1, by omega⟩
    have g1 : wire_TakeText.f k (B (textL (l.getD i []) ++ (((l.drop (i + 1)).map textL).flatten ++ rest))) ((l.getD i []).length : Int) = _ := e1 k (by omega)
    have g2 : letterlocklaw2_WireRow.l0 k (l.map B) (B rest) (B (rowL l ++ rest)) (B (((l.drop (i + 1)).map textL).flatten ++ rest)) ((i + 1 : Nat) : Int) = _ := e2 k (by omega)
    show letterlocklaw2_WireRow.l0 (k + 1) (l.map B) (B rest) (B (rowL l ++ rest)) (B (textL (l.getD i []) ++ (((l.drop (i + 1)).map textL).flatten ++ rest))) (i : Int) = _
    rw [letterlocklaw2_WireRow.l0, if_pos (by rw [List.length_map]; omega), if_pos (by omega), rdOf_B, size_B, g1, Option.bind_some]
    unfold tt
    rw [if_pos rfl, if_pos rfl, w64 _ (by omega) (by omega), show (i : Int) + 1 = ((i + 1 : Nat) : Int) from by omega]
    exact g2
theorem WireRow : letterlocklaw2_WireRow.Pure := by
  intro l1 a1 _ _ hsz
  obtain ⟨l, rfl⟩ := ofBs l1
  obtain ⟨rest, rfl, hs⟩ := ofB a1
  obtain ⟨K0, e0⟩ := letterlocklaw2_shown.ev
  obtain ⟨b, ⟨K1, e1⟩, hb⟩ := letterlocklaw2_small.ev l
  cases b with
  | false =>
    refine ⟨K0 + K1 + 1, ?_⟩
    have g0 : letterlocklaw2_shown.f (K0 + K1 + 1) = _ := e0 (K0 + K1 + 1) (by omega)
    have g1 : letterlocklaw2_small.f (K0 + K1 + 1) (l.map B) = _ := e1 (K0 + K1 + 1) (by omega)
    unfold letterlocklaw2_WireRow.f
    rw [g0, Option.bind_some, g1, Option.bind_some, if_pos rfl, if_neg (by decide), letterlocklaw2_WireRow.j0, if_pos rfl]
  | true =>
    by_cases hr : rest.length ≤ 1000
    · have hS := hb rfl
      have hs := small_heavy hS
      have hlen := heavy_len l
      have hrl := row_len l (by omega)
      have h4 : ∀ x ∈ l, x.length ≤ 4000 := fun x hx => by have := hS.2.1 x hx; omega
      obtain ⟨K2, e2⟩ := row_loop l rest hs h4 hr l.length 0 (by omega)
      obtain ⟨K3, e3⟩ := wire_PutAll.ev l (by omega)
      refine ⟨K0 + K1 + K2 + K3 + 2, ?_⟩
      generalize hk : K0 + K1 + K2 + K3 = k
      have g0 : letterlocklaw2_shown.f (k + 2) = _ := e0 (k + 2) (by omega)
      have g1 : letterlocklaw2_small.f (k + 2) (l.map B) = _ := e1 (k + 2) (by omega)
      have g3 : wire_PutAll.f (k + 1) (l.map B) = _ := e3 (k + 1) (by omega)
      have g2 : letterlocklaw2_WireRow.l0 k (l.map B) (B rest) (B (rowL l ++ rest)) (B (((l.drop 0).map textL).flatten ++ rest)) 0 = _ := e2 k (by omega)
      have ht : takeL (rowL l ++ rest) = some (l.length, (l.map textL).flatten ++ rest) := by
        unfold rowL
        rw [List.append_assoc, takeL_encN _ _ (by omega)]
      unfold letterlocklaw2_WireRow.f
      rw [g0, Option.bind_some, g1, Option.bind_some, if_pos rfl, if_pos rfl, letterlocklaw2_WireRow.j0, if_neg (by rw [decide_eq_true_iff, size_B]; omega), g3, Option.bind_some, size_B, size_B, if_pos (by omega), append_B, wire_Take.of, ht]
      simp only
      rw [Option.bind_some, if_pos rfl, List.length_map, wu64 _ (by omega) (by omega), letterlocklaw2_WireRow.j1, if_neg (by simp)]
      exact g2
    · refine ⟨K0 + K1 + 1, ?_⟩
      have g0 : letterlocklaw2_shown.f (K0 + K1 + 1) = _ := e0 (K0 + K1 + 1) (by omega)
      have g1 : letterlocklaw2_small.f (K0 + K1 + 1) (l.map B) = _ := e1 (K0 + K1 + 1) (by omega)
      unfold letterlocklaw2_WireRow.f
      rw [g0, Option.bind_some, g1, Option.bind_some, if_pos rfl, if_pos rfl, letterlocklaw2_WireRow.j0, if_pos (by rw [decide_eq_true_iff, size_B]; omega)]
end Go.Proofs.Ytmdglodneldekaa.Pure
