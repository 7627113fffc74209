/- Slimmed by wip/slim.py. -/
import Derived.Test.YtodiffgpefidoaaGreatDoorG0
import Derived.Test.YtodiffgpefidoaaGreatDoorSpec
import Derived.Test.YtodiffgpefidoaaGreatDoorEWire
import Derived.Lib.Hide
namespace Go.Proofs.YtodiffgpefidoaaGreatDoor.P
open Go.RowKit Go.Proofs.YtodiffgpefidoaaGreatDoorW.PrintWords Go.Proofs.YtodiffgpefidoaaGreatDoorW.PrintLast Go.Proofs.YtodiffgpefidoaaGreatDoorW.PrintMore
set_option linter.unusedVariables false
set_option linter.unusedSimpArgs false
theorem i64_at (n : Int) (h0 : -9223372036854775808 ≤ n) (h1 : n ≤ 9223372036854775807) : IntKind.i64.wrap n = n := by rw [IntKind.wrap_i64]; omega
section
variable (s : ByteArray) (r : List UInt8) (w : World)
theorem ahead {k : UInt8} (hs : S s = k :: r) : 0 < s.size ∧ (∀ h : 0 < s.size, ((s[0]'h).toNat : Int) = (k.toNat : Int)) ∧ s.extract 1 s.size = B r ∧ s.size = r.length + 1 := by
  have h : s.size = r.length + 1 := by rw [size_S, hs]; rfl
  refine ⟨by omega, fun h => by rw [list_byte s 0 h, hs]; rfl, ?_, h⟩
  rw [← B_S s, hs, extract_B, size_B]; simp
set_option maxHeartbeats 1000000 in
theorem leaf_a (n : Nat) (q : List UInt8) (m : Nat) (hb : s.size ≤ 1000000000) (hs : S s = 97 :: r) (ht : takeL r = some (n, q)) (hm : s.size = m + q.length) :
    Calls Tryz.prog 99 #[.string s] w fun e w' => e = .returned (.iface 126 (.agg #[.string (s.extract 0 m), .int .u64 n])) ∧ Below w.heap.size w w' := by
  obtain ⟨hsz, hx0, hext, -⟩ := ahead s r hs
  have hx : ∀ h : 0 < s.size, ((s[0]'h).toNat : Int) = 97 := hx0
  clear hx0
  have q0 : (0 < (s.size : Int)) = True := eq_true (by omega)
  have q1 : (0 < s.size) = True := eq_true hsz
  have q2 : (1 ≤ s.size) = True := eq_true hsz
  have q3 : (1 ≤ (s.size : Int)) = True := eq_true (by omega)
  have hqs : (B q).size = q.length := size_B q
  have KH := Lib.hid (wire_Take.calls (B r) (n : Int) (B q) 0)
  have TH := Lib.hid (show wire_Take.f (B r) = some ((n : Int), B q, 0) by rw [wire_Take.of, ht])
  have hsub : IntKind.i64.wrap ((s.size : Int) - (q.length : Int)) = (m : Int) := by rw [i64_at _ (by omega) (by omega)]; omega
  have b0 : (0 ≤ (m : Int)) = True := eq_true (by omega)
  have b1 : ((m : Int) ≤ (s.size : Int)) = True := eq_true (by omega)
  have b2 : (m ≤ s.size) = True := eq_true (by omega)
  clear ht hs hsz hm hb
  go_enter Tryz.func99, Tryz.ntmps99
  go_wp2_with (go_at_call 73; refine (KH.out _ TH.out).mono ?_; rintro e w1 ⟨rfl, hb⟩)
  go_ret
  exact ⟨rfl, hb⟩
set_option maxHeartbeats 1000000 in
theorem leaf_a_no (hs : S s = 97 :: r) (ht : takeL r = none) :
    Calls Tryz.prog 99 #[.string s] w fun e w' => e = .returned .nilIface ∧ Below w.heap.size w w' := by
  obtain ⟨hsz, hx0, hext, -⟩ := ahead s r hs
  have hx : ∀ h : 0 < s.size, ((s[0]'h).toNat : Int) = 97 := hx0
  clear hx0
  have q0 : (0 < (s.size : Int)) = True := eq_true (by omega)
  have q1 : (0 < s.size) = True := eq_true hsz
  have q2 : (1 ≤ s.size) = True := eq_true hsz
  have q3 : (1 ≤ (s.size : Int)) = True := eq_true (by omega)
  have KH := Lib.hid (wire_Take.calls (B r) 0 (B []) 2)
  have TH := Lib.hid (show wire_Take.f (B r) = some (0, B [], 2) by rw [wire_Take.of, ht])
  clear ht hs hsz
  go_enter Tryz.func99, Tryz.ntmps99
  go_wp2_with (go_at_call 73; refine (KH.out _ TH.out).mono ?_; rintro e w1 ⟨rfl, hb⟩)
  go_ret
  exact ⟨rfl, hb⟩
set_option maxHeartbeats 1000000 in
theorem leaf_t (t q : List UInt8) (m : Nat) (hb : s.size ≤ 1000000000) (hs : S s = 116 :: r) (ht : takeTextL r 4000 = (t, q, 0)) (hm : s.size = m + q.length) :
    Calls Tryz.prog 99 #[.string s] w fun e w' => e = .returned (.iface 128 (.agg #[.string (s.extract 0 m), .string (B t)])) ∧ Below w.heap.size w w' := by
  obtain ⟨hsz, hx0, hext, -⟩ := ahead s r hs
  have hx : ∀ h : 0 < s.size, ((s[0]'h).toNat : Int) = 116 := hx0
  clear hx0
  have q0 : (0 < (s.size : Int)) = True := eq_true (by omega)
  have q1 : (0 < s.size) = True := eq_true hsz
  have q2 : (1 ≤ s.size) = True := eq_true hsz
  have q3 : (1 ≤ (s.size : Int)) = True := eq_true (by omega)
  have hqs : (B q).size = q.length := size_B q
  obtain ⟨k, hk⟩ : ∃ k, wire_TakeText.f k (B r) 4000 = some (B t, B q, 0) := by
    obtain ⟨K, hK⟩ := wire_TakeText.ev r 4000 (by omega) (by omega)
    exact ⟨K, by have h := hK K (Nat.le_refl _); rw [ht] at h; exact h⟩
  have KH := Lib.hid (wire_TakeText.calls k (B r) 4000 (B t) (B q) 0)
  have TH := Lib.hid hk
  have hsub : IntKind.i64.wrap ((s.size : Int) - (q.length : Int)) = (m : Int) := by rw [i64_at _ (by omega) (by omega)]; omega
  have b0 : (0 ≤ (m : Int)) = True := eq_true (by omega)
  have b1 : ((m : Int) ≤ (s.size : Int)) = True := eq_true (by omega)
  have b2 : (m ≤ s.size) = True := eq_true (by omega)
  clear ht hs hsz hm hb hk
  go_enter Tryz.func99, Tryz.ntmps99
  go_wp2_with (go_at_call 72; refine (KH.out _ TH.out).mono ?_; rintro e w1 ⟨rfl, hb⟩)
  go_ret
  exact ⟨rfl, hb⟩
set_option maxHeartbeats 1000000 in
theorem leaf_t_no (hs : S s = 116 :: r) (ht : (takeTextL r 4000).2.2 ≠ 0) :
    Calls Tryz.prog 99 #[.string s] w fun e w' => e = .returned .nilIface ∧ Below w.heap.size w w' := by
  obtain ⟨hsz, hx0, hext, -⟩ := ahead s r hs
  have hx : ∀ h : 0 < s.size, ((s[0]'h).toNat : Int) = 116 := hx0
  clear hx0
  have q0 : (0 < (s.size : Int)) = True := eq_true (by omega)
  have q1 : (0 < s.size) = True := eq_true hsz
  have q2 : (1 ≤ s.size) = True := eq_true hsz
  have q3 : (1 ≤ (s.size : Int)) = True := eq_true (by omega)
  obtain ⟨k, hk⟩ : ∃ k, wire_TakeText.f k (B r) 4000 = some (B [], B [], (takeTextL r 4000).2.2) := by
    obtain ⟨K, hK⟩ := wire_TakeText.ev r 4000 (by omega) (by omega)
    obtain ⟨h1, h2⟩ := takeTextL_err r 4000 ht
    exact ⟨K, by have h := hK K (Nat.le_refl _); unfold tt at h; rw [h1, h2] at h; exact h⟩
  generalize (takeTextL r 4000).2.2 = c at ht hk
  have KH := Lib.hid (wire_TakeText.calls k (B r) 4000 (B []) (B []) c)
  have TH := Lib.hid hk
  have hc : (c == 0) = false := beq_eq_false_iff_ne.mpr ht
  clear ht hs hsz hk
  go_enter Tryz.func99, Tryz.ntmps99
  go_wp2_with (go_at_call 72; refine (KH.out _ TH.out).mono ?_; rintro e w1 ⟨rfl, hb⟩)
  go_ret
  exact ⟨rfl, hb⟩
end
end Go.Proofs.YtodiffgpefidoaaGreatDoor.P

