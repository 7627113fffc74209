/- Slimmed by wip/slim.py. -/
import Derived.Test.YtodiffgpefidoaaDoorELaw11C
import Derived.Test.YtodiffgpefidoaaDoorGFresh1
namespace Go.Proofs.YtodiffgpefidoaaDoor.P
open Go.RowKit Go.Proofs.YtodiffgpefidoaaDoorW.PrintWords Go.Proofs.YtodiffgpefidoaaDoorW.PrintLast Go.Proofs.YtodiffgpefidoaaDoorW.PrintMore
set_option linter.unusedVariables false
set_option linter.unusedSimpArgs false
theorem letterlocklaw11_who.two (c : Int) (h0 : -9223372036854775808 ≤ c) (h1 : c ≤ 9223372036854775807) :
    ∃ u ∈ names, ∃ v ∈ names, u ≠ v ∧ ∃ p : Nat, letterlocklaw11_pick.f c 8 = some (p : Int) ∧ letterlocklaw11_who.f c = some (B u) ∧ letterlocklaw11_who.f (wrap64 ((p : Int) + 1)) = some (B v) := by
  obtain ⟨p, hp, e⟩ := letterlocklaw11_pick.of c h0 h1 8 (by decide) (by decide)
  have e : letterlocklaw11_pick.f c 8 = some (p : Int) := e
  have ep : letterlocklaw11_pick.f ((p : Nat) : Int) 8 = some (p : Int) := by
    rcases (by omega : p = 0 ∨ p = 1 ∨ p = 2 ∨ p = 3 ∨ p = 4 ∨ p = 5 ∨ p = 6 ∨ p = 7) with rfl | rfl | rfl | rfl | rfl | rfl | rfl | rfl <;> kernel_rfl
  have ec : letterlocklaw11_who.f c = letterlocklaw11_who.f (p : Int) := by unfold letterlocklaw11_who.f; rw [e, ep]
  rcases (by omega : p = 0 ∨ p = 1 ∨ p = 2 ∨ p = 3 ∨ p = 4 ∨ p = 5 ∨ p = 6 ∨ p = 7) with rfl | rfl | rfl | rfl | rfl | rfl | rfl | rfl
  · exact ⟨[97, 110, 110, 97], by decide, [98, 101, 110], by decide, by decide, 0, e, ec.trans (by kernel_rfl), by kernel_rfl⟩
  · exact ⟨[98, 101, 110], by decide, [99, 121], by decide, by decide, 1, e, ec.trans (by kernel_rfl), by kernel_rfl⟩
  · exact ⟨[99, 121], by decide, [100, 111, 114, 97], by decide, by decide, 2, e, ec.trans (by kernel_rfl), by kernel_rfl⟩
  · exact ⟨[100, 111, 114, 97], by decide, [101, 109, 105, 108], by decide, by decide, 3, e, ec.trans (by kernel_rfl), by kernel_rfl⟩
  · exact ⟨[101, 109, 105, 108], by decide, [195, 164, 109, 105, 108], by decide, by decide, 4, e, ec.trans (by kernel_rfl), by kernel_rfl⟩
  · exact ⟨[195, 164, 109, 105, 108], by decide, [102, 97, 45, 49], by decide, by decide, 5, e, ec.trans (by kernel_rfl), by kernel_rfl⟩
  · exact ⟨[102, 97, 45, 49], by decide, [103], by decide, by decide, 6, e, ec.trans (by kernel_rfl), by kernel_rfl⟩
  · exact ⟨[103], by decide, [97, 110, 110, 97], by decide, by decide, 7, e, ec.trans (by kernel_rfl), by kernel_rfl⟩
theorem next_time (t : Nat) (ht : t < 18446744073709551616) : ∃ t' : Nat, t' < 18446744073709551616 ∧ t' ≠ t ∧ IntKind.u64.wrap ((t : Int) + 1) = (t' : Int) := by
  by_cases h : t + 1 < 18446744073709551616
  · exact ⟨t + 1, h, by omega, by rw [wu64 _ (by omega) (by omega)]; omega⟩
  · obtain rfl : t = 18446744073709551615 := by omega
    exact ⟨0, by decide, by decide, by kernel_rfl⟩
theorem next_many (n : Nat) (hn : n ≤ 8) : ∃ n' : Nat, n' ≤ 8 ∧ n' ≠ n ∧ Int.tmod (wrap64 ((n : Int) + 1)) 9 = (n' : Int) := by
  rcases (by omega : n = 0 ∨ n = 1 ∨ n = 2 ∨ n = 3 ∨ n = 4 ∨ n = 5 ∨ n = 6 ∨ n = 7 ∨ n = 8) with rfl | rfl | rfl | rfl | rfl | rfl | rfl | rfl | rfl
  · exact ⟨1, by decide, by decide, by kernel_rfl⟩
  · exact ⟨2, by decide, by decide, by kernel_rfl⟩
  · exact ⟨3, by decide, by decide, by kernel_rfl⟩
  · exact ⟨4, by decide, by decide, by kernel_rfl⟩
  · exact ⟨5, by decide, by decide, by kernel_rfl⟩
  · exact ⟨6, by decide, by decide, by kernel_rfl⟩
  · exact ⟨7, by decide, by decide, by kernel_rfl⟩
  · exact ⟨8, by decide, by decide, by kernel_rfl⟩
  · exact ⟨0, by decide, by decide, by kernel_rfl⟩
theorem secret_kind (s : List UInt8) (hs : s.length ≤ 100) : kindL (secretL s) = 104 := by rw [kindL, secretL_right s hs]; rfl
theorem fresh_Put.ev (o : List UInt8) (t n : Nat) (r g : List UInt8) (ho : o.length ≤ 1000000) (ht : t < 18446744073709551616) (hn : n ≤ 8) (lr : r.length ≤ 4000) (lg : g.length ≤ 4000) (hr : rightS o n r g = true) :
    Ev (fun k => fresh_Put.f k (B o) (t : Int) (n : Int) (B r) (B g)) (B (stampB (o, t, n, r, g)), 0) := by
  have l1 := encN_len t ht
  have l2 := encN_len n (by omega)
  obtain ⟨K1, e1⟩ := wire_Put.ev t ht
  obtain ⟨K2, e2⟩ := wire_Put.ev n (by omega)
  obtain ⟨K3, e3⟩ := wire_PutAll.ev [o, encN t, encN n, r, g] (by simp [heavy]; omega)
  refine ⟨K1 + K2 + K3, fun k hk => ?_⟩
  have g1 : wire_Put.f k (t : Int) = _ := e1 k (by omega)
  have g2 : wire_Put.f k (n : Int) = _ := e2 k (by omega)
  have g3 : wire_PutAll.f k [B o, B (encN t), B (encN n), B r, B g] = _ := e3 k (by omega)
  show fresh_Put.f k _ _ _ _ _ = _
  rw [fresh_Put.f, fresh_Right.of _ o (by omega), Option.bind_some, hr, if_pos rfl, g1, Option.bind_some, wu64 _ (by omega) (by omega), g2, Option.bind_some, g3, Option.bind_some]
  rfl
theorem stampB_len (s : StampL) (ht : s.2.1 < 18446744073709551616) (h8 : s.2.2.1 ≤ 8) (l0 : s.1.length ≤ 4000) (l3 : s.2.2.2.1.length ≤ 4000) (l4 : s.2.2.2.2.length ≤ 4000) : (stampB s).length ≤ 1000000 := by
  obtain ⟨o, t, n, r, g⟩ := s
  simp only at ht h8 l0 l3 l4
  have l1 := encN_len t ht
  have l2 := encN_len n (by omega)
  have hv : heavy [o, encN t, encN n, r, g] ≤ 20000 := by simp [heavy]; omega
  have := heavy_flat [o, encN t, encN n, r, g] (by omega)
  have l5 := encN_len 5 (by decide)
  show (encN 5 ++ ([o, encN t, encN n, r, g].map textL).flatten).length ≤ 1000000
  rw [List.length_append]
  omega
end Go.Proofs.YtodiffgpefidoaaDoor.P

