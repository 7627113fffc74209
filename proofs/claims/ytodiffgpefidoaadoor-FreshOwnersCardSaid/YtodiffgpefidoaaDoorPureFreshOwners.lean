/- Slimmed by wip/slim.py. -/
import Derived.Test.YtodiffgpefidoaaDoorELaw11C
import Derived.Test.YtodiffgpefidoaaDoorGLFreshOwners
namespace Go.Proofs.YtodiffgpefidoaaDoor.Pure
set_option linter.unusedVariables false
set_option linter.unusedSimpArgs false
open Go.RowKit Go.Proofs.YtodiffgpefidoaaDoor.P Go.Proofs.YtodiffgpefidoaaDoorW.PrintWords Go.Proofs.YtodiffgpefidoaaDoorW.PrintLast Go.Proofs.YtodiffgpefidoaaDoorW.PrintMore
theorem owners_j0 (u v : List UInt8) (hu : u ∈ names) (hv : v ∈ names) (t : Nat) (ht : t < 18446744073709551616) (n : Nat) (hn : n ≤ 8) (r : List UInt8) (hr : Fits 17 r) (hl : r.length ≤ 400) (late : Nat) (h1 : late = t - 1) :
    Ev (fun k => letterlocklaw11_FreshOwners.j0 k (t : Int) (B u) (B v) (late : Int) (B u) (t : Int) (n : Int) (B r) (B (sigL u t n r))) true := by
  obtain ⟨u1, u2, -⟩ := names_len u hu
  obtain ⟨v1, v2, -⟩ := names_len v hv
  obtain ⟨K1, e1⟩ := letterlocklaw11_publicOf.ev v (by omega)
  obtain ⟨K2, e2⟩ := letterlocklaw11_publicOf.ev u (by omega)
  obtain ⟨K3, e3⟩ := fresh_Check.ev u (by omega) t n ht (by omega) r (sigL u t n r) (publicL v) u t 0 ht (by decide)
  obtain ⟨K4, e4⟩ := fresh_Check.ev u (by omega) t n ht (by omega) r (sigL u t n r) (publicL v) v late 0 (by omega) (by decide)
  obtain ⟨K5, e5⟩ := fresh_Check.ev u (by omega) t n ht (by omega) r (sigL u t n r) (publicL u) v late 0 (by omega) (by decide)
  rw [check_built u hu t ht n hn r hr hl t ht n hn r hr hl v hv] at e3 e4
  rw [check_built u hu t ht n hn r hr hl t ht n hn r hr hl u hu, if_pos ⟨rfl, rfl, rfl, rfl⟩] at e5
  refine ⟨K1 + K2 + K3 + K4 + K5 + 1, fun k hk => ?_⟩
  obtain ⟨k, rfl⟩ : ∃ m, k = m + 1 := ⟨k - 1, by omega⟩
  have g1 : letterlocklaw11_publicOf.f k (B v) = _ := e1 k (by omega)
  have g2 : letterlocklaw11_publicOf.f k (B u) = _ := e2 k (by omega)
  have g3 : fresh_Check.f k (B u) (t : Int) (n : Int) (B r) (B (sigL u t n r)) (B (publicL v)) (B u) (t : Int) 0 = _ := e3 k (by omega)
  have g4 : fresh_Check.f k (B u) (t : Int) (n : Int) (B r) (B (sigL u t n r)) (B (publicL v)) (B v) (late : Int) 0 = _ := e4 k (by omega)
  have g5 : fresh_Check.f k (B u) (t : Int) (n : Int) (B r) (B (sigL u t n r)) (B (publicL u)) (B v) (late : Int) 0 = _ := e5 k (by omega)
  show letterlocklaw11_FreshOwners.j0 (k + 1) _ _ _ _ _ _ _ _ _ = _
  by_cases huv : u = v
  · subst huv
    rw [if_pos ⟨rfl, rfl, rfl, rfl⟩, if_pos rfl] at g3 g4
    rw [if_pos rfl] at g5
    rw [if_neg (show ¬ (t < t ∨ 0 < t - t) by omega)] at g3
    rw [letterlocklaw11_FreshOwners.j0, g1, Option.bind_some, g3, Option.bind_some, Option.bind_some, g4, Option.bind_some, Option.bind_some, g4, Option.bind_some, if_pos rfl, if_pos rfl]
    by_cases h0 : 0 < t
    · rw [if_pos (show late < t ∨ 0 < late - t from Or.inl (by omega)), decide_eq_true (show (t : Int) > 0 by omega)]
      rfl
    · rw [if_neg (show ¬ (late < t ∨ 0 < late - t) by omega), decide_eq_false (show ¬ (t : Int) > 0 by omega)]
      rfl
  · rw [if_neg (fun h => huv h.1.symm)] at g3 g4
    rw [if_neg huv] at g5
    rw [letterlocklaw11_FreshOwners.j0, g1, Option.bind_some, g3, Option.bind_some, Option.bind_some, g4, Option.bind_some, g2, Option.bind_some, g5, Option.bind_some, toList_B, toList_B, if_neg huv, if_pos rfl, if_pos rfl]
    rfl
theorem FreshOwners : letterlocklaw11_FreshOwners.Pure := by
  intro a0 a1 a2 l3 w0 w1 w2 m3 y3 w3
  obtain ⟨b00, b01⟩ := wfi64 w0
  obtain ⟨b10, b11⟩ := wfi64 w1
  obtain ⟨t, rfl, ht⟩ := wf64 w2
  obtain ⟨u, hu, eu⟩ := letterlocklaw11_who.of a0 b00 b01
  obtain ⟨v, hv, ev⟩ := letterlocklaw11_who.of a1 b10 b11
  obtain ⟨u1, u2, -⟩ := names_len u hu
  obtain ⟨ls, hls, hlen, K1, e1⟩ := letterlocklaw11_row.ev l3 w3
  have hg := leaves_good hls
  have h8 : ls.length ≤ 8 := by omega
  obtain ⟨hf, hl⟩ := rootL_fits hg h8
  obtain ⟨K0, e0⟩ := letterlocklaw11_shown.ev
  obtain ⟨K2, e2⟩ := letterlocklaw11_secretOf.ev u (by omega)
  obtain ⟨K3, e3⟩ := fresh_Build.ev11 u hu t ht ls hg h8
  obtain ⟨K4, e4⟩ := owners_j0 u v hu hv t ht ls.length h8 (rootL ls) hf hl (t - 1) rfl
  refine ⟨K0 + K1 + K2 + K3 + K4, ?_⟩
  obtain ⟨k, hk⟩ : ∃ k, k = K0 + K1 + K2 + K3 + K4 := ⟨_, rfl⟩
  rw [← hk]
  have g0 : letterlocklaw11_shown.f k = _ := e0 k (by omega)
  have g1 : letterlocklaw11_row.f k l3 = _ := e1 k (by omega)
  have g2 : letterlocklaw11_secretOf.f k (B u) = _ := e2 k (by omega)
  have g3 : fresh_Build.f k (B (secretL u)) (B u) (t : Int) (ls.map B) = _ := e3 k (by omega)
  have g4 : letterlocklaw11_FreshOwners.j0 k (t : Int) (B u) (B v) ((t - 1 : Nat) : Int) (B u) (t : Int) (ls.length : Int) (B (rootL ls)) (B (sigL u t ls.length (rootL ls))) = _ := e4 k (by omega)
  rw [letterlocklaw11_FreshOwners.f, g0, Option.bind_some, eu, Option.bind_some, ev, Option.bind_some, g2, Option.bind_some, g1, Option.bind_some, g3, Option.bind_some, if_pos rfl, if_pos rfl]
  by_cases h0 : 0 < t
  · have hw : IntKind.u64.wrap ((t : Int) - 1) = ((t - 1 : Nat) : Int) := by rw [wu64 _ (by omega) (by omega)]; omega
    rw [if_pos (by omega), hw]
    exact g4
  · obtain rfl : t = 0 := by omega
    rw [if_neg (by omega)]
    exact g4
end Go.Proofs.YtodiffgpefidoaaDoor.Pure

