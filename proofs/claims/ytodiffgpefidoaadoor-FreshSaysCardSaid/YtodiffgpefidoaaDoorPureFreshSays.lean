/- Slimmed by wip/slim.py. -/
import Derived.Test.YtodiffgpefidoaaDoorELaw11C
import Derived.Test.YtodiffgpefidoaaDoorGLFreshSays
namespace Go.Proofs.YtodiffgpefidoaaDoor.Pure
set_option linter.unusedVariables false
set_option linter.unusedSimpArgs false
open Go.RowKit Go.Proofs.YtodiffgpefidoaaDoor.P Go.Proofs.YtodiffgpefidoaaDoorW.PrintWords Go.Proofs.YtodiffgpefidoaaDoorW.PrintLast Go.Proofs.YtodiffgpefidoaaDoorW.PrintMore
theorem FreshSays : letterlocklaw11_FreshSays.Pure := by
  intro a0 a1 a2 l3 l4 w0 w1 w2 m3 y3 w3 m4 y4 w4
  obtain ⟨b00, b01⟩ := wfi64 w0
  obtain ⟨a, rfl, ha⟩ := wf64 w1
  obtain ⟨b, rfl, hb⟩ := wf64 w2
  obtain ⟨u, hu, eu⟩ := letterlocklaw11_who.of a0 b00 b01
  obtain ⟨u1, u2, -⟩ := names_len u hu
  obtain ⟨ls, hls, hlen, K1, e1⟩ := letterlocklaw11_row.ev l3 w3
  obtain ⟨ms, hms, hmen, K2, e2⟩ := letterlocklaw11_row.ev l4 w4
  have hg := leaves_good hls
  have hh := leaves_good hms
  have h8 : ls.length ≤ 8 := by omega
  have i8 : ms.length ≤ 8 := by omega
  obtain ⟨hf, hl⟩ := rootL_fits hg h8
  obtain ⟨jf, jl⟩ := rootL_fits hh i8
  obtain ⟨K0, e0⟩ := letterlocklaw11_shown.ev
  obtain ⟨K3, e3⟩ := letterlocklaw11_secretOf.ev u (by omega)
  obtain ⟨K4, e4⟩ := letterlocklaw11_publicOf.ev u (by omega)
  obtain ⟨K5, e5⟩ := fresh_Build.ev11 u hu a ha ls hg h8
  obtain ⟨K6, e6⟩ := fresh_Build.ev11 u hu b hb ms hh i8
  obtain ⟨K7, e7⟩ := fresh_Check.ev u (by omega) b ls.length hb (by omega) (rootL ls) (sigL u a ls.length (rootL ls)) (publicL u) u b 0 hb (by decide)
  obtain ⟨K8, e8⟩ := fresh_Check.ev u (by omega) a ms.length ha (by omega) (rootL ls) (sigL u a ls.length (rootL ls)) (publicL u) u a 0 ha (by decide)
  obtain ⟨K9, e9⟩ := fresh_Check.ev u (by omega) a ls.length ha (by omega) (rootL ms) (sigL u a ls.length (rootL ls)) (publicL u) u a 0 ha (by decide)
  rw [check_built u hu a ha ls.length h8 (rootL ls) hf hl b hb ls.length h8 (rootL ls) hf hl u hu, if_pos rfl, if_neg (show ¬ (b < b ∨ 0 < b - b) by omega)] at e7
  rw [check_built u hu a ha ls.length h8 (rootL ls) hf hl a ha ms.length i8 (rootL ls) hf hl u hu, if_pos rfl, if_neg (show ¬ (a < a ∨ 0 < a - a) by omega)] at e8
  rw [check_built u hu a ha ls.length h8 (rootL ls) hf hl a ha ls.length h8 (rootL ms) jf jl u hu, if_pos rfl, if_neg (show ¬ (a < a ∨ 0 < a - a) by omega)] at e9
  refine ⟨K0 + K1 + K2 + K3 + K4 + K5 + K6 + K7 + K8 + K9, ?_⟩
  obtain ⟨k, hk⟩ : ∃ k, k = K0 + K1 + K2 + K3 + K4 + K5 + K6 + K7 + K8 + K9 := ⟨_, rfl⟩
  rw [← hk]
  have g0 : letterlocklaw11_shown.f k = _ := e0 k (by omega)
  have g1 : letterlocklaw11_row.f k l3 = _ := e1 k (by omega)
  have g2 : letterlocklaw11_row.f k l4 = _ := e2 k (by omega)
  have g3 : letterlocklaw11_secretOf.f k (B u) = _ := e3 k (by omega)
  have g4 : letterlocklaw11_publicOf.f k (B u) = _ := e4 k (by omega)
  have g5 : fresh_Build.f k (B (secretL u)) (B u) (a : Int) (ls.map B) = _ := e5 k (by omega)
  have g6 : fresh_Build.f k (B (secretL u)) (B u) (b : Int) (ms.map B) = _ := e6 k (by omega)
  have g7 : fresh_Check.f k (B u) (b : Int) (ls.length : Int) (B (rootL ls)) (B (sigL u a ls.length (rootL ls))) (B (publicL u)) (B u) (b : Int) 0 = _ := e7 k (by omega)
  have g8 : fresh_Check.f k (B u) (a : Int) (ms.length : Int) (B (rootL ls)) (B (sigL u a ls.length (rootL ls))) (B (publicL u)) (B u) (a : Int) 0 = _ := e8 k (by omega)
  have g9 : fresh_Check.f k (B u) (a : Int) (ls.length : Int) (B (rootL ms)) (B (sigL u a ls.length (rootL ls))) (B (publicL u)) (B u) (a : Int) 0 = _ := e9 k (by omega)
  have c7 : ((((if u = u ∧ b = a ∧ ls.length = ls.length ∧ rootL ls = rootL ls then 0 else 7 : Int)) == 0) == ((a : Int) == (b : Int))) = true := by
    by_cases h : b = a
    · subst h; simp
    · rw [if_neg (fun e => h e.2.1), show ((a : Int) == (b : Int)) = false from beq_eq_false_iff_ne.mpr (by omega)]; rfl
  have c8 : ((((if u = u ∧ a = a ∧ ms.length = ls.length ∧ rootL ls = rootL ls then 0 else 7 : Int)) == 0) == ((ls.length : Int) == (ms.length : Int))) = true := by
    by_cases h : ms.length = ls.length
    · rw [if_pos ⟨rfl, rfl, h, rfl⟩, h]; simp
    · rw [if_neg (fun e => h e.2.2.1), show ((ls.length : Int) == (ms.length : Int)) = false from beq_eq_false_iff_ne.mpr (by omega)]; rfl
  have c9 : ((((if u = u ∧ a = a ∧ ls.length = ls.length ∧ rootL ms = rootL ls then 0 else 7 : Int)) == 0) == ((B (rootL ls)).toList == (B (rootL ms)).toList)) = true := by
    rw [toList_B, toList_B]
    by_cases h : rootL ms = rootL ls
    · rw [if_pos ⟨rfl, rfl, rfl, h⟩, h]; simp
    · rw [if_neg (fun e => h e.2.2.2), show (rootL ls == rootL ms) = false from beq_eq_false_iff_ne.mpr (fun e => h e.symm)]; rfl
  rw [letterlocklaw11_FreshSays.f, g0, Option.bind_some, eu, Option.bind_some, g3, Option.bind_some, g1, Option.bind_some, g5, Option.bind_some, Option.bind_some, g2, Option.bind_some, g6, Option.bind_some, if_pos rfl, if_pos rfl, if_pos rfl, g4, Option.bind_some, g7, Option.bind_some, if_pos c7, g8, Option.bind_some, if_pos c8, g9, Option.bind_some, if_pos c9, Option.bind_some, List.length_map]
  simp
end Go.Proofs.YtodiffgpefidoaaDoor.Pure

