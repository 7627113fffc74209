/- Slimmed by wip/slim.py. -/
import Derived.Test.YtodiffgpefidoaaDoorELaw11D
import Derived.Test.YtodiffgpefidoaaDoorELaw11E
import Derived.Test.YtodiffgpefidoaaDoorGLFreshSpoils
namespace Go.Proofs.YtodiffgpefidoaaDoor.Pure
set_option linter.unusedVariables false
set_option linter.unusedSimpArgs false
open Go.RowKit Go.Proofs.YtodiffgpefidoaaDoor.P Go.Proofs.YtodiffgpefidoaaDoorW.PrintWords Go.Proofs.YtodiffgpefidoaaDoorW.PrintLast Go.Proofs.YtodiffgpefidoaaDoorW.PrintMore
theorem xor_ne (c : UInt8) (q : Nat) (hq : q < 8) : UInt8.ofNat (c.toNat ^^^ 2 ^ q) ≠ c := by
  intro h
  have h1 := congrArg UInt8.toNat h
  have h2 : 2 ^ q < 2 ^ 8 := Nat.pow_lt_pow_right (by decide) hq
  have h3 : c.toNat ^^^ 2 ^ q < 2 ^ 8 := Nat.xor_lt_two_pow c.toNat_lt h2
  rw [UInt8.toNat_ofNat', Nat.mod_eq_of_lt h3] at h1
  have h4 := congrArg (fun z => c.toNat ^^^ z) h1
  simp only [← Nat.xor_assoc, Nat.xor_self, Nat.zero_xor] at h4
  have := Nat.two_pow_pos q
  omega
theorem FreshSpoils : letterlocklaw11_FreshSpoils.Pure := by
  intro a0 a1 l2 a3 a4 w0 w1 m2 y2 w2 w3 w4
  obtain ⟨b00, b01⟩ := wfi64 w0
  obtain ⟨t, rfl, ht⟩ := wf64 w1
  obtain ⟨b30, b31⟩ := wfi64 w3
  obtain ⟨b40, b41⟩ := wfi64 w4
  obtain ⟨u, hu, eu⟩ := letterlocklaw11_who.of a0 b00 b01
  obtain ⟨u1, u2, -⟩ := names_len u hu
  obtain ⟨ls, hls, hlen, K1, e1⟩ := letterlocklaw11_row.ev l2 w2
  have hg := leaves_good hls
  have h8 : ls.length ≤ 8 := by omega
  obtain ⟨hf, hl⟩ := rootL_fits hg h8
  obtain ⟨-, -, sl⟩ := sig_fits (o := u) (t := t) (n := ls.length) (by omega) ht (by omega) hf hl
  have hR := built_right u hu t ht ls.length h8 (rootL ls) hf hl ls.length h8 (rootL ls) (rootL_right hg h8)
  obtain ⟨r0, -⟩ := right_pos (rootL_right hg h8)
  obtain ⟨K0, e0⟩ := letterlocklaw11_shown.ev
  obtain ⟨K2, e2⟩ := letterlocklaw11_secretOf.ev u (by omega)
  obtain ⟨K3, e3⟩ := fresh_Build.ev11 u hu t ht ls hg h8
  obtain ⟨K4, e4⟩ := fresh_Put.ev u t ls.length (rootL ls) (sigL u t ls.length (rootL ls)) (by omega) ht h8 (by omega) (by omega) hR
  have hbl := stampB_len (u, t, ls.length, rootL ls, sigL u t ls.length (rootL ls)) ht h8 (show u.length ≤ 4000 by omega) (show (rootL ls).length ≤ 4000 by omega) (show (sigL u t ls.length (rootL ls)).length ≤ 4000 by omega)
  have hsp := spoilt u hu t ls.length (rootL ls) ht h8 r0 (by omega)
  have hb0 : 0 < (stampB (u, t, ls.length, rootL ls, sigL u t ls.length (rootL ls))).length := by
    have l5 := encN_len 5 (by decide)
    rw [stampB_parts, List.length_append, List.length_append]
    omega
  obtain ⟨b, hb⟩ : ∃ b, b = stampB (u, t, ls.length, rootL ls, sigL u t ls.length (rootL ls)) := ⟨_, rfl⟩
  rw [← hb] at e4 hbl hb0 hsp
  obtain ⟨p, hp, ep⟩ := letterlocklaw11_pick.of a3 b30 b31 b.length hb0 hbl
  obtain ⟨q, hq, eq⟩ := letterlocklaw11_pick.of a4 b40 b41 8 (by decide) (by decide)
  have eq : letterlocklaw11_pick.f a4 8 = some (q : Int) := eq
  obtain ⟨x, hx⟩ : ∃ x, x = b.set p (UInt8.ofNat ((b.getD p 0).toNat ^^^ 2 ^ q)) := ⟨_, rfl⟩
  have hspoil : spoilB (B b) (p : Int) (q : Int) = B x := by rw [spoilB, Int.toNat_natCast, Int.toNat_natCast, hx]; rfl
  have hne : x ≠ b := by
    intro e
    have h1 : x[p]? = b[p]? := by rw [e]
    rw [hx, List.getElem?_set_self hp, List.getElem?_eq_getElem hp] at h1
    have h2 := Option.some.inj h1
    rw [show b.getD p 0 = b[p] from by simp [List.getD, hp]] at h2
    exact xor_ne _ q hq h2
  have hxl : x.length ≤ 1000000 := by rw [hx, List.length_set]; exact hbl
  obtain ⟨K5, e5⟩ := fresh_Take.ev x hxl
  obtain ⟨K6, e6⟩ := letterlocklaw11_publicOf.ev u (by omega)
  have hsize : ((B b).size : Int) = (b.length : Int) := by rw [size_B]
  have hO : spoilO (B b) (p : Int) (q : Int) = some (B x) := by
    unfold spoilO
    rw [if_pos ⟨by omega, by rw [hsize]; omega, by omega, by omega⟩, hspoil]
  cases hT : takeE x with
  | none =>
    rw [hT] at e5
    refine ⟨K0 + K1 + K2 + K3 + K4 + K5, ?_⟩
    obtain ⟨k, hk⟩ : ∃ k, k = K0 + K1 + K2 + K3 + K4 + K5 := ⟨_, rfl⟩
    rw [← hk]
    have g0 : letterlocklaw11_shown.f k = _ := e0 k (by omega)
    have g1 : letterlocklaw11_row.f k l2 = _ := e1 k (by omega)
    have g2 : letterlocklaw11_secretOf.f k (B u) = _ := e2 k (by omega)
    have g3 : fresh_Build.f k (B (secretL u)) (B u) (t : Int) (ls.map B) = _ := e3 k (by omega)
    have g4 : fresh_Put.f k (B u) (t : Int) (ls.length : Int) (B (rootL ls)) (B (sigL u t ls.length (rootL ls))) = _ := e4 k (by omega)
    have g5 : fresh_Take.f k (B x) = some (⟨#[]⟩, 0, 0, ⟨#[]⟩, ⟨#[]⟩, 2) := e5 k (by omega)
    rw [letterlocklaw11_FreshSpoils.f, g0, Option.bind_some, eu, Option.bind_some, g2, Option.bind_some, g1, Option.bind_some, g3, Option.bind_some, g4, Option.bind_some, if_pos rfl, if_pos rfl, if_pos rfl, hsize, if_neg (show ¬ (b.length : Int) = 0 by omega), ep, Option.bind_some, eq, Option.bind_some, hO, Option.bind_some, g5, Option.bind_some, if_pos rfl]
    simp only [show (⟨#[]⟩ : ByteArray).toList = ([] : List UInt8) from toList_B []]
    rfl
  | some s =>
    obtain ⟨f1, f2, f3, -⟩ := takeE_some hT
    rw [hT] at e5
    have hc : checkE s.1 s.2.1 s.2.2.1 s.2.2.2.1 s.2.2.2.2 (publicL u) u s.2.1 0 ≠ 0 := by
      intro hc
      rw [hx] at hT
      exact hne (hx.trans (hsp p _ s s.2.1 0 hT hc))
    obtain ⟨o, T, n, r, g⟩ := s
    simp only at f1 f2 f3 hc
    have lo : o.length ≤ 1000000 := by
      have h1 := P.rowLen [o, encN T, encN n, r, g] o (by simp)
      have h2 : (stampB (o, T, n, r, g)).length = (encN 5).length + ([o, encN T, encN n, r, g].map textL).flatten.length := by
        show (encN 5 ++ ([o, encN T, encN n, r, g].map textL).flatten).length = _
        rw [List.length_append]
      rw [← f1] at h2
      omega
    obtain ⟨K7, e7⟩ := fresh_Check.ev o lo T n f2 (by omega) r g (publicL u) u T 0 f2 (by decide)
    refine ⟨K0 + K1 + K2 + K3 + K4 + K5 + K6 + K7, ?_⟩
    obtain ⟨k, hk⟩ : ∃ k, k = K0 + K1 + K2 + K3 + K4 + K5 + K6 + K7 := ⟨_, rfl⟩
    rw [← hk]
    have g0 : letterlocklaw11_shown.f k = _ := e0 k (by omega)
    have g1 : letterlocklaw11_row.f k l2 = _ := e1 k (by omega)
    have g2 : letterlocklaw11_secretOf.f k (B u) = _ := e2 k (by omega)
    have g3 : fresh_Build.f k (B (secretL u)) (B u) (t : Int) (ls.map B) = _ := e3 k (by omega)
    have g4 : fresh_Put.f k (B u) (t : Int) (ls.length : Int) (B (rootL ls)) (B (sigL u t ls.length (rootL ls))) = _ := e4 k (by omega)
    have g5 : fresh_Take.f k (B x) = some (B o, (T : Int), (n : Int), B r, B g, 0) := e5 k (by omega)
    have g6 : letterlocklaw11_publicOf.f k (B u) = _ := e6 k (by omega)
    have g7 : fresh_Check.f k (B o) (T : Int) (n : Int) (B r) (B g) (B (publicL u)) (B u) (T : Int) 0 = _ := e7 k (by omega)
    rw [letterlocklaw11_FreshSpoils.f, g0, Option.bind_some, eu, Option.bind_some, g2, Option.bind_some, g1, Option.bind_some, g3, Option.bind_some, g4, Option.bind_some, if_pos rfl, if_pos rfl, if_pos rfl, hsize, if_neg (show ¬ (b.length : Int) = 0 by omega), ep, Option.bind_some, eq, Option.bind_some, hO, Option.bind_some, g5, Option.bind_some, if_neg (show ¬ (0 : Int) = 2 by decide), if_pos rfl, g6, Option.bind_some, g7, Option.bind_some, bne_iff_ne.mpr hc]
end Go.Proofs.YtodiffgpefidoaaDoor.Pure

