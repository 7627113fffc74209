/- The number, the text and the row that bytes begin with, or are, or what is wrong, are told by wire as by the document's answer: both tell what the plain words of SpecN tell; for every bytes and every bounds. -/
import Derived.Test.YtmdglodneldekaaELaw2
import Derived.Test.YtmdglodneldekaaGLWireTakes
namespace Go.Proofs.Ytmdglodneldekaa.Pure
set_option linter.unusedVariables false
set_option linter.unusedSimpArgs false
open Go.RowKit Go.Proofs.Ytmdglodneldekaa.P Go.Proofs.YtmdglodneldekaaW.PrintWords Go.Proofs.YtmdglodneldekaaW.PrintLast
theorem WireTakes : letterlocklaw2_WireTakes.Pure := by
  intro a0 many most hsz w1 w2
  obtain ⟨s, rfl, hs⟩ := ofB a0
  obtain ⟨h2, h3⟩ := wfi64 w1
  obtain ⟨h0, h1⟩ := wfi64 w2
  obtain ⟨K0, e0⟩ := letterlocklaw2_shown.ev
  by_cases hb : s.length ≤ 4000
  · obtain ⟨K2, e2⟩ := letterlockref2_Take.tn s (by omega)
    obtain ⟨K3, e3⟩ := wire_TakeText.ev s most h0 h1
    obtain ⟨K4, e4⟩ := letterlockref2_TakeText.ev s most (by omega) h0 h1
    obtain ⟨K5, e5⟩ := wire_TakeAll.ev s many most (by omega) h0 h1 h2 h3
    obtain ⟨K6, e6⟩ := letterlockref2_TakeAll.ev s many most (by omega) h0 h1 h2 h3
    have hlen : (takeAllL s many most).1.length ≤ 1000000000 := by
      have := takeAllL_len s many most
      omega
    obtain ⟨K7, e7⟩ := letterlocklaw2_same.ev (takeAllL s many most).1 hlen
    refine ⟨K0 + K2 + K3 + K4 + K5 + K6 + K7 + 1, ?_⟩
    generalize hk : K0 + K2 + K3 + K4 + K5 + K6 + K7 = k
    have g2 : letterlockref2_Take.f k (B s) = _ := e2 k (by omega)
    have g3 : wire_TakeText.f k (B s) most = _ := e3 k (by omega)
    have g4 : letterlockref2_TakeText.f k (B s) most = _ := e4 k (by omega)
    have g5 : wire_TakeAll.f k (B s) many most = _ := e5 k (by omega)
    have g6 : letterlockref2_TakeAll.f k (B s) many most = _ := e6 k (by omega)
    have g7 : letterlocklaw2_same.f k (ta (takeAllL s many most)).1 (ta (takeAllL s many most)).1 = _ := e7 k (by omega)
    have g0 : letterlocklaw2_shown.f (k + 1) = _ := e0 (k + 1) (by omega)
    unfold letterlocklaw2_WireTakes.f
    rw [g0, Option.bind_some, if_pos rfl, letterlocklaw2_WireTakes.j0, if_neg (by rw [decide_eq_true_iff, size_B]; omega), wire_Take.tn, Option.bind_some, g2, Option.bind_some, g3, Option.bind_some, g4, Option.bind_some, g5, Option.bind_some, g6, Option.bind_some]
    rw [if_pos rfl, if_pos rfl, if_pos rfl, if_pos rfl, if_pos rfl, if_pos rfl, g7, Option.bind_some, if_pos rfl]
    simp
  · refine ⟨K0 + 1, ?_⟩
    have g0 : letterlocklaw2_shown.f (K0 + 1) = _ := e0 (K0 + 1) (by omega)
    unfold letterlocklaw2_WireTakes.f
    rw [g0, Option.bind_some, if_pos rfl, letterlocklaw2_WireTakes.j0, if_pos (by rw [decide_eq_true_iff, size_B]; omega)]
end Go.Proofs.Ytmdglodneldekaa.Pure
