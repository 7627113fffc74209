/- The bytes of a number, a text and a row are put by wire as the document's answer puts them: both are the plain words of SpecN; for every number, and every few and short texts (others are not spoken of). -/
import Derived.Test.YtmdglodneldekaaELaw2
import Derived.Test.YtmdglodneldekaaGLWirePuts
namespace Go.Proofs.Ytmdglodneldekaa.Pure
set_option linter.unusedVariables false
set_option linter.unusedSimpArgs false
open Go.RowKit Go.Proofs.Ytmdglodneldekaa.P Go.Proofs.YtmdglodneldekaaW.PrintWords Go.Proofs.YtmdglodneldekaaW.PrintLast
theorem puts_loop (n : Nat) (hn : n < 18446744073709551616) (l : List (List UInt8)) (hl : heavy l ≤ 1000000) : ∀ (m i : Nat), l.length = i + m →
    Ev (fun k => letterlocklaw2_WirePuts.l0 k (n : Int) (l.map B) (i : Int)) true := by
  intro m
  induction m with
  | zero =>
    intro i hi
    obtain ⟨K1, e1⟩ := wire_Put.ev n hn
    obtain ⟨K2, e2⟩ := letterlockref2_Put.ev n hn
    obtain ⟨K3, e3⟩ := wire_PutAll.ev l (by omega)
    obtain ⟨K4, e4⟩ := letterlockref2_PutAll.ev l (by omega)
    refine ⟨K1 + K2 + K3 + K4 + 1, fun k hk => ?_⟩
    obtain ⟨k, rfl⟩ : ∃ m, k = m + 1 := ⟨k - 1, by omega⟩
    have g1 : wire_Put.f k (n : Int) = _ := e1 k (by omega)
    have g2 : letterlockref2_Put.f k (n : Int) = _ := e2 k (by omega)
    have g3 : wire_PutAll.f k (l.map B) = _ := e3 k (by omega)
    have g4 : letterlockref2_PutAll.f k (l.map B) = _ := e4 k (by omega)
    show letterlocklaw2_WirePuts.l0 (k + 1) (n : Int) (l.map B) (i : Int) = _
    rw [letterlocklaw2_WirePuts.l0, if_neg (by rw [List.length_map]; omega), g1, Option.bind_some, g2, Option.bind_some, if_pos rfl, g3, Option.bind_some, g4, Option.bind_some]
    simp
  | succ m ih =>
    intro i hi
    have hh := heavy_drop l i
    have hlen := heavy_len l
    rw [drop_getD l i [] (by omega), heavy_cons] at hh
    obtain ⟨K1, e1⟩ := wire_PutText.ev (l.getD i []) (by omega)
    obtain ⟨K2, e2⟩ := letterlockref2_PutText.ev (l.getD i []) (by omega)
    obtain ⟨K3, e3⟩ := ih (i + 1) (by omega)
    refine ⟨K1 + K2 + K3 + 1, fun k hk => ?_⟩
    obtain ⟨k, rfl⟩ : ∃ m, k = m + 1 := ⟨k - 1, by omega⟩
    have g1 : wire_PutText.f k (B (l.getD i [])) = _ := e1 k (by omega)
    have g2 : letterlockref2_PutText.f k (B (l.getD i [])) = _ := e2 k (by omega)
    have g3 : letterlocklaw2_WirePuts.l0 k (n : Int) (l.map B) ((i + 1 : Nat) : Int) = _ := e3 k (by omega)
    show letterlocklaw2_WirePuts.l0 (k + 1) (n : Int) (l.map B) (i : Int) = _
    rw [letterlocklaw2_WirePuts.l0, if_pos (by rw [List.length_map]; omega), if_pos (by omega), rdOf_B, g1, Option.bind_some, g2, Option.bind_some, if_pos rfl, w64 _ (by omega) (by omega), show (i : Int) + 1 = ((i + 1 : Nat) : Int) from by omega, g3]
theorem WirePuts : letterlocklaw2_WirePuts.Pure := by
  intro a0 l1 w0 _ _
  obtain ⟨n, rfl, hn⟩ := wf64 w0
  obtain ⟨l, rfl⟩ := ofBs l1
  obtain ⟨K0, e0⟩ := letterlocklaw2_shown.ev
  obtain ⟨b, ⟨K1, e1⟩, hb⟩ := letterlocklaw2_small.ev l
  cases b with
  | false =>
    refine ⟨K0 + K1 + 1, ?_⟩
    have g0 : letterlocklaw2_shown.f (K0 + K1 + 1) = _ := e0 (K0 + K1 + 1) (by omega)
    have g1 : letterlocklaw2_small.f (K0 + K1 + 1) (l.map B) = _ := e1 (K0 + K1 + 1) (by omega)
    unfold letterlocklaw2_WirePuts.f
    rw [g0, Option.bind_some, g1, Option.bind_some, if_pos rfl, letterlocklaw2_WirePuts.j0, if_pos (show (!false) = true from rfl)]
  | true =>
    have hs := small_heavy (hb rfl)
    obtain ⟨K2, e2⟩ := puts_loop n hn l (by omega) l.length 0 (by omega)
    refine ⟨K0 + K1 + K2 + 1, ?_⟩
    have g0 : letterlocklaw2_shown.f (K0 + K1 + K2 + 1) = _ := e0 (K0 + K1 + K2 + 1) (by omega)
    have g1 : letterlocklaw2_small.f (K0 + K1 + K2 + 1) (l.map B) = _ := e1 (K0 + K1 + K2 + 1) (by omega)
    have g2 : letterlocklaw2_WirePuts.l0 (K0 + K1 + K2) (n : Int) (l.map B) 0 = _ := e2 (K0 + K1 + K2) (by omega)
    unfold letterlocklaw2_WirePuts.f
    rw [g0, Option.bind_some, g1, Option.bind_some, if_pos rfl, letterlocklaw2_WirePuts.j0, if_neg (by decide), g2]
end Go.Proofs.Ytmdglodneldekaa.Pure
