/- Slimmed by wip/slim.py. -/
import Derived.Test.YtodiffgpefidoaaDoorELaw11C
import Derived.Test.YtodiffgpefidoaaDoorGFresh3
namespace Go.Proofs.YtodiffgpefidoaaDoor.P
open Go.RowKit Go.Proofs.YtodiffgpefidoaaDoorW.PrintWords Go.Proofs.YtodiffgpefidoaaDoorW.PrintLast Go.Proofs.YtodiffgpefidoaaDoorW.PrintMore
set_option linter.unusedVariables false
set_option linter.unusedSimpArgs false
theorem fresh_Put.ev (o : List UInt8) (t n : Nat) (r g : List UInt8) (ho : o.length ≤ 1000000) (ht : t < 18446744073709551616) (hn : n ≤ 8) (lr : r.length ≤ 4000) (lg : g.length ≤ 4000) (hr : rightS o n r g = true) :
    Ev (fun k => fresh_Put.f k (B o) (t : Int) (n : Int) (B r) (B g)) (B (stampB (o, t, n, r, g)), 0) := by
  have l1 := encN_len t ht
  have l2 := encN_len n (by omega)
  obtain ⟨K1, e1⟩ := wire_Put.ev t ht
  obtain ⟨K2, e2⟩ := wire_Put.ev n (by omega)
  obtain ⟨K3, e3⟩ := wire_PutAll.ev [o, encN t, encN n, r, g] (by simp [heavy]; omega)
  refine ⟨K1 + K2 + K3, fun k hk => ?_⟩
  have g1 : wire_Put.f k (t : Int) = _ := e1 k (by omega)
  have g2 : wire_Put.f k (n : Int) = _ := e2 k (by omega)
  have g3 : wire_PutAll.f k [B o, B (encN t), B (encN n), B r, B g] = _ := e3 k (by omega)
  show fresh_Put.f k _ _ _ _ _ = _
  rw [fresh_Put.f, fresh_Right.of _ o (by omega), Option.bind_some, hr, if_pos rfl, g1, Option.bind_some, wu64 _ (by omega) (by omega), g2, Option.bind_some, g3, Option.bind_some]
  rfl
theorem stampB_len (s : StampL) (ht : s.2.1 < 18446744073709551616) (h8 : s.2.2.1 ≤ 8) (l0 : s.1.length ≤ 4000) (l3 : s.2.2.2.1.length ≤ 4000) (l4 : s.2.2.2.2.length ≤ 4000) : (stampB s).length ≤ 1000000 := by
  obtain ⟨o, t, n, r, g⟩ := s
  simp only at ht h8 l0 l3 l4
  have l1 := encN_len t ht
  have l2 := encN_len n (by omega)
  have hv : heavy [o, encN t, encN n, r, g] ≤ 20000 := by simp [heavy]; omega
  have := heavy_flat [o, encN t, encN n, r, g] (by omega)
  have l5 := encN_len 5 (by decide)
  show (encN 5 ++ ([o, encN t, encN n, r, g].map textL).flatten).length ≤ 1000000
  rw [List.length_append]
  omega
end Go.Proofs.YtodiffgpefidoaaDoor.P

