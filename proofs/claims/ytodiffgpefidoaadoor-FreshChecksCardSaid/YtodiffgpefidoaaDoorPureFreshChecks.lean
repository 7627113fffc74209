/- Slimmed by wip/slim.py. -/
import Derived.Test.YtodiffgpefidoaaDoorELaw11D
import Derived.Test.YtodiffgpefidoaaDoorGLFreshChecks
namespace Go.Proofs.YtodiffgpefidoaaDoor.Pure
set_option linter.unusedVariables false
set_option linter.unusedSimpArgs false
open Go.RowKit Go.Proofs.YtodiffgpefidoaaDoor.P Go.Proofs.YtodiffgpefidoaaDoorW.PrintWords Go.Proofs.YtodiffgpefidoaaDoorW.PrintLast Go.Proofs.YtodiffgpefidoaaDoorW.PrintMore
theorem checks_j1 (c : Int) (u v : List UInt8) (hu : u ∈ names) (hv : v ∈ names) (huv : u ≠ v) (p : Nat) (hp : letterlocklaw11_pick.f c 8 = some (p : Int)) (hw : letterlocklaw11_who.f (wrap64 ((p : Int) + 1)) = some (B v))
    (t : Nat) (ht : t < 18446744073709551616) (n : Nat) (hn : n ≤ 8) (r : List UInt8) (hr : Fits 17 r) (hl : r.length ≤ 400) (now bound : Nat) (h1 : now < 18446744073709551616) (h2 : bound < 18446744073709551616) (want : Int) (hwant : want = if now < t ∨ bound < now - t then 8 else 0) :
    Ev (fun k => letterlocklaw11_FreshChecks.j1 k c (now : Int) (bound : Int) (B u) want (B u) (t : Int) (n : Int) (B r) (B (sigL u t n r))) true := by
  obtain ⟨u1, u2, -⟩ := names_len u hu
  obtain ⟨v1, v2, -⟩ := names_len v hv
  obtain ⟨t', ht', htn, et0⟩ := next_time t ht
  have et := Aside0.mk et0
  clear et0
  obtain ⟨n', hn', hnn, en0⟩ := next_many n hn
  have en := Aside0.mk en0
  clear en0
  obtain ⟨K1, e1⟩ := letterlocklaw11_publicOf.ev u (by omega)
  obtain ⟨K2, e2⟩ := letterlocklaw11_publicOf.ev v (by omega)
  obtain ⟨K3, e3⟩ := letterlocklaw11_secretOf.ev u (by omega)
  obtain ⟨K4, e4⟩ := fresh_Check.ev u (by omega) t n ht (by omega) r (sigL u t n r) (publicL u) u now bound h1 h2
  obtain ⟨K5, e5⟩ := fresh_Check.ev u (by omega) t n ht (by omega) r (sigL u t n r) (publicL v) u now bound h1 h2
  obtain ⟨K6, e6⟩ := fresh_Check.ev u (by omega) t n ht (by omega) r (sigL u t n r) (publicL u) v now bound h1 h2
  obtain ⟨K7, e7⟩ := fresh_Check.ev u (by omega) t' n ht' (by omega) r (sigL u t n r) (publicL u) u now bound h1 h2
  obtain ⟨K8, e8⟩ := fresh_Check.ev u (by omega) t n' ht (by omega) r (sigL u t n r) (publicL u) u now bound h1 h2
  obtain ⟨K9, e9⟩ := fresh_Check.ev u (by omega) t n ht (by omega) r (sigL u t n r) (secretL u) u now bound h1 h2
  rw [check_built u hu t ht n hn r hr hl t ht n hn r hr hl u hu, if_pos ⟨rfl, rfl, rfl, rfl⟩, if_pos rfl, ← hwant] at e4
  rw [check_built u hu t ht n hn r hr hl t ht n hn r hr hl v hv, if_neg (fun h => huv h.1.symm)] at e5
  rw [check_built u hu t ht n hn r hr hl t ht n hn r hr hl u hu, if_pos ⟨rfl, rfl, rfl, rfl⟩, if_neg huv] at e6
  rw [check_built u hu t ht n hn r hr hl t' ht' n hn r hr hl u hu, if_neg (fun h => htn h.2.1)] at e7
  rw [check_built u hu t ht n hn r hr hl t ht n' hn' r hr hl u hu, if_neg (fun h => hnn h.2.2.1)] at e8
  rw [checkE, if_neg (fun h => absurd ((secret_kind u (by omega)).symm.trans h.2) (by decide))] at e9
  refine ⟨K1 + K2 + K3 + K4 + K5 + K6 + K7 + K8 + K9 + 1, fun k hk => ?_⟩
  obtain ⟨k, rfl⟩ : ∃ m, k = m + 1 := ⟨k - 1, by omega⟩
  have g1 : letterlocklaw11_publicOf.f k (B u) = _ := e1 k (by omega)
  have g2 : letterlocklaw11_publicOf.f k (B v) = _ := e2 k (by omega)
  have g3 : letterlocklaw11_secretOf.f k (B u) = _ := e3 k (by omega)
  have g4 : fresh_Check.f k (B u) (t : Int) (n : Int) (B r) (B (sigL u t n r)) (B (publicL u)) (B u) (now : Int) (bound : Int) = _ := e4 k (by omega)
  have g5 : fresh_Check.f k (B u) (t : Int) (n : Int) (B r) (B (sigL u t n r)) (B (publicL v)) (B u) (now : Int) (bound : Int) = _ := e5 k (by omega)
  have g6 : fresh_Check.f k (B u) (t : Int) (n : Int) (B r) (B (sigL u t n r)) (B (publicL u)) (B v) (now : Int) (bound : Int) = _ := e6 k (by omega)
  have g7 : fresh_Check.f k (B u) (t' : Int) (n : Int) (B r) (B (sigL u t n r)) (B (publicL u)) (B u) (now : Int) (bound : Int) = _ := e7 k (by omega)
  have g8 : fresh_Check.f k (B u) (t : Int) (n' : Int) (B r) (B (sigL u t n r)) (B (publicL u)) (B u) (now : Int) (bound : Int) = _ := e8 k (by omega)
  have g9 : fresh_Check.f k (B u) (t : Int) (n : Int) (B r) (B (sigL u t n r)) (B (secretL u)) (B u) (now : Int) (bound : Int) = _ := e9 k (by omega)
  show letterlocklaw11_FreshChecks.j1 (k + 1) _ _ _ _ _ _ _ _ _ _ = _
  rw [letterlocklaw11_FreshChecks.j1, hp, Option.bind_some, hw, Option.bind_some, g1, Option.bind_some, g4, Option.bind_some, if_pos rfl, g2, Option.bind_some, g5, Option.bind_some, if_pos rfl, Option.bind_some, g6, Option.bind_some, if_pos rfl, Option.bind_some, et.out, g7, Option.bind_some, if_pos rfl, Option.bind_some, en.out, g8, Option.bind_some, if_pos rfl, g3, Option.bind_some, g9, Option.bind_some]
  rfl
theorem FreshChecks : letterlocklaw11_FreshChecks.Pure := by
  intro a0 a1 a2 a3 l4 w0 w1 w2 w3 m4 y4 w4
  obtain ⟨b00, b01⟩ := wfi64 w0
  obtain ⟨t, rfl, ht⟩ := wf64 w1
  obtain ⟨now, rfl, hnow⟩ := wf64 w2
  obtain ⟨bound, rfl, hbound⟩ := wf64 w3
  obtain ⟨u, hu, v, hv, huv, p, hp, eu, ew⟩ := letterlocklaw11_who.two a0 b00 b01
  obtain ⟨u1, u2, -⟩ := names_len u hu
  obtain ⟨ls, hls, hlen, K1, e1⟩ := letterlocklaw11_row.ev l4 w4
  have hg := leaves_good hls
  have h8 : ls.length ≤ 8 := by omega
  obtain ⟨hf, hl⟩ := rootL_fits hg h8
  obtain ⟨-, -, sl⟩ := sig_fits (o := u) (t := t) (n := ls.length) (by omega) ht (by omega) hf hl
  have hR := built_right u hu t ht ls.length h8 (rootL ls) hf hl ls.length h8 (rootL ls) (rootL_right hg h8)
  obtain ⟨K0, e0⟩ := letterlocklaw11_shown.ev
  obtain ⟨K2, e2⟩ := letterlocklaw11_secretOf.ev u (by omega)
  obtain ⟨K3, e3⟩ := fresh_Build.ev11 u hu t ht ls hg h8
  obtain ⟨K4, e4⟩ := fresh_Put.ev u t ls.length (rootL ls) (sigL u t ls.length (rootL ls)) (by omega) ht h8 (by omega) (by omega) hR
  have hT := takeE_put (s := (u, t, ls.length, rootL ls, sigL u t ls.length (rootL ls))) ht h8 hR (show u.length ≤ 4000 by omega) (show (rootL ls).length ≤ 4000 by omega) (show (sigL u t ls.length (rootL ls)).length ≤ 4000 by omega)
  obtain ⟨K5, e5⟩ := fresh_Take.ev (stampB (u, t, ls.length, rootL ls, sigL u t ls.length (rootL ls))) (stampB_len _ ht h8 (show u.length ≤ 4000 by omega) (show (rootL ls).length ≤ 4000 by omega) (show (sigL u t ls.length (rootL ls)).length ≤ 4000 by omega)) (Or.inl (by rw [hT]; simp))
  rw [hT] at e5
  obtain ⟨want, hwant⟩ : ∃ want : Int, want = if now < t ∨ bound < now - t then 8 else 0 := ⟨_, rfl⟩
  obtain ⟨K6, e6⟩ := checks_j1 a0 u v hu hv huv p hp ew t ht ls.length h8 (rootL ls) hf hl now bound hnow hbound want hwant
  refine ⟨K0 + K1 + K2 + K3 + K4 + K5 + K6 + 1, ?_⟩
  obtain ⟨k, hk⟩ : ∃ k, k = K0 + K1 + K2 + K3 + K4 + K5 + K6 := ⟨_, rfl⟩
  rw [← hk]
  have g0 : letterlocklaw11_shown.f (k + 1) = _ := e0 (k + 1) (by omega)
  have g1 : letterlocklaw11_row.f (k + 1) l4 = _ := e1 (k + 1) (by omega)
  have g2 : letterlocklaw11_secretOf.f (k + 1) (B u) = _ := e2 (k + 1) (by omega)
  have g3 : fresh_Build.f (k + 1) (B (secretL u)) (B u) (t : Int) (ls.map B) = _ := e3 (k + 1) (by omega)
  have g4 : fresh_Put.f (k + 1) (B u) (t : Int) (ls.length : Int) (B (rootL ls)) (B (sigL u t ls.length (rootL ls))) = _ := e4 (k + 1) (by omega)
  have g5 : fresh_Take.f (k + 1) (B (stampB (u, t, ls.length, rootL ls, sigL u t ls.length (rootL ls)))) = some (B u, (t : Int), (ls.length : Int), B (rootL ls), B (sigL u t ls.length (rootL ls)), 0) := e5 (k + 1) (by omega)
  have g6 : letterlocklaw11_FreshChecks.j1 k a0 (now : Int) (bound : Int) (B u) want (B u) (t : Int) (ls.length : Int) (B (rootL ls)) (B (sigL u t ls.length (rootL ls))) = _ := e6 k (by omega)
  have j0 : ∀ (x : Int) (b : Bool), (if b = true then 8 else x) = want → letterlocklaw11_FreshChecks.j0 (k + 1) a0 (now : Int) (bound : Int) (B u) x b (B u) (t : Int) (ls.length : Int) (B (rootL ls)) (B (sigL u t ls.length (rootL ls))) = some true := by
    intro x b hb
    rw [letterlocklaw11_FreshChecks.j0]
    cases b
    · rw [if_neg (by decide)] at hb ⊢
      rw [hb]; exact g6
    · rw [if_pos rfl] at hb ⊢
      rw [hb]; exact g6
  rw [letterlocklaw11_FreshChecks.f, g0, Option.bind_some, if_pos rfl, eu, Option.bind_some, g2, Option.bind_some, g1, Option.bind_some, g3, Option.bind_some, g4, Option.bind_some, g5, Option.bind_some, if_pos rfl, if_pos rfl, if_pos rfl]
  rw [if_neg (by simp), Option.bind_some, if_pos (show (ls.length : Int) = ((ls.map B).length : Int) by rw [List.length_map]), if_pos rfl]
  by_cases hlt : now < t
  · rw [if_pos (show (now : Int) < (t : Int) by omega)]
    exact j0 0 true (by rw [hwant, if_pos rfl, if_pos (Or.inl hlt)])
  · rw [if_neg (show ¬ (now : Int) < (t : Int) by omega), show IntKind.u64.wrap ((now : Int) - (t : Int)) = ((now - t : Nat) : Int) from by rw [wu64 _ (by omega) (by omega)]; omega]
    by_cases hb : bound < now - t
    · rw [decide_eq_true (show ((now - t : Nat) : Int) > (bound : Int) by omega)]
      exact j0 0 true (by rw [hwant, if_pos rfl, if_pos (Or.inr hb)])
    · rw [decide_eq_false (show ¬ ((now - t : Nat) : Int) > (bound : Int) by omega)]
      exact j0 0 false (by rw [hwant, if_neg (by decide), if_neg (show ¬ (now < t ∨ bound < now - t) by omega)])
end Go.Proofs.YtodiffgpefidoaaDoor.Pure

