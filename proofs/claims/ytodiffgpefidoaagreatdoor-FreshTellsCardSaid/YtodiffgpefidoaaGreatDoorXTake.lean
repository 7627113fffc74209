/- Slimmed by wip/slim.py. -/
import Derived.Test.YtodiffgpefidoaaGreatDoorG0
import Derived.Test.YtodiffgpefidoaaGreatDoorSpec
import Derived.Laws.BitsAllLaws
import Derived.Lib.Hide
namespace Go.Proofs.YtodiffgpefidoaaGreatDoor.P
open Go.RowKit Go.Proofs.YtodiffgpefidoaaGreatDoorW.PrintWords Go.Proofs.YtodiffgpefidoaaGreatDoorW.PrintLast Go.Proofs.YtodiffgpefidoaaGreatDoorW.PrintMore
set_option linter.unusedVariables false
set_option linter.unusedSimpArgs false
def wire_Take.f (a0 : ByteArray) : Option (Int × ByteArray × Int) :=
  match takeL (S a0) with
  | none => some (0, B [], 2)
  | some (n, r) => some ((n : Int), B r, 0)
theorem or_join (n b : Nat) (hn : n < 72057594037927936) (hb : b < 256) : bits BinOp.or IntKind.u64 ((n : Int) * 256) (b : Int) = ((256 * n + b : Nat) : Int) := by
  have h := u64_or_nat (n * 256) b (by omega) (by omega)
  rw [show (((n * 256 : Nat) : Int)) = (n : Int) * 256 from by omega] at h
  rw [h]
  congr 1
  have h2 := Nat.two_pow_add_eq_or_of_lt (i := 8) (b := b) (by omega) n
  rw [show n * 256 = 2 ^ 8 * n from by omega, ← h2]
theorem list_byte (a0 : ByteArray) (i : Nat) (h : i < a0.size) : ((a0[i]'h).toNat : Int) = (((S a0).getD i 0).toNat : Int) := by
  have h1 := bt_at a0 (i : Int) h
  have h2 := bt_B (S a0) (i : Int)
  rw [B_S] at h2
  exact h1.trans h2
def takeEnd (bad : Bool) (n : Nat) (r : ByteArray) : Ending := if bad then .returned (.tuple #[.int .u64 0, .string (B []), .int .i64 2]) else .returned (.tuple #[.int .u64 n, .string r, .int .i64 0])
theorem take_empty (w : World) :
    Calls Tryz.prog 73 #[.string (B [])] w fun e w' => e = .returned (.tuple #[.int .u64 0, .string (B []), .int .i64 2]) ∧ Below w.heap.size w w' := by
  unfold B
  go_enter Tryz.func73, Tryz.ntmps73
  go_wp2
  go_ret3
  exact ⟨rfl, Below.refl _ _⟩
set_option maxHeartbeats 400000 in
theorem take_bad (a0 : ByteArray) (z : Nat) (w : World) (h : 0 < a0.size) (hz : ((S a0).getD 0 0).toNat = z) (hb : 8 < z ∨ a0.size < z + 1) :
    Calls Tryz.prog 73 #[.string a0] w fun e w' => e = .returned (.tuple #[.int .u64 0, .string (B []), .int .i64 2]) ∧ Below w.heap.size w w' := by
  have hx : ∀ h : 0 < a0.size, ((a0[0]'h).toNat : Int) = (z : Int) := fun h => by rw [list_byte a0 0 h, hz]
  have hzu : (z : Int) ≤ 255 := by have := ((S a0).getD 0 0).toNat_lt; omega
  clear hz
  have hne : ¬ (a0.toList = []) := by
    intro e; rw [toList_S] at e; rw [size_S, e] at h; simp at h
  have q0 : (0 < (a0.size : Int)) = True := eq_true (by omega)
  have q1 : (0 < a0.size) = True := eq_true (by omega)
  have q2 : (1 ≤ a0.size) = True := eq_true (by omega)
  have q3 : (1 ≤ (a0.size : Int)) = True := eq_true (by omega)
  have e0 : (a0.toList == ([] : List UInt8)) = false := beq_eq_false_iff_ne.mpr hne
  have e1 : (a0.toList != ([] : List UInt8)) = true := bne_iff_ne.mpr hne
  have e2 : a0.toList.isEmpty = false := by simpa using hne
  clear hne
  by_cases h8 : 8 < z
  · have c1 : decide (8 < (z : Int)) = true := decide_eq_true (by omega)
    clear hb
    go_enter Tryz.func73, Tryz.ntmps73
    go_wp2
    go_ret3
    exact ⟨rfl, Below.refl _ _⟩
  · have c1 : decide (8 < (z : Int)) = false := decide_eq_false (by omega)
    have c2 : decide (((a0.size - 1 : Nat) : Int) < (z : Int)) = true := decide_eq_true (by omega)
    have c3 : decide (a0.size - 1 < z) = true := decide_eq_true (by omega)
    clear hb
    go_enter Tryz.func73, Tryz.ntmps73
    go_wp2
    go_ret3
    exact ⟨rfl, Below.refl _ _⟩
theorem numOf_small (l : List UInt8) (k : Nat) (hk : k ≤ 7) : numOf (l.take k) < 72057594037927936 := by
  have h := numOf_lt (l.take k)
  have h2 : (l.take k).length ≤ 7 := by rw [List.length_take]; omega
  have h3 : 256 ^ (l.take k).length ≤ 256 ^ 7 := Nat.pow_le_pow_right (by omega) h2
  have h4 : 256 ^ 7 = 72057594037927936 := by decide
  omega
theorem numOf_step (l : List UInt8) (k : Nat) (hk : k < l.length) : 256 * numOf (l.take k) + (l.getD k 0).toNat = numOf (l.take (k + 1)) := by
  rw [List.take_succ_eq_append_getElem hk, numOf_snoc]
  simp [List.getD_eq_getElem?_getD, hk]
set_option maxHeartbeats 1000000 in
theorem take_good (a0 : ByteArray) (z : Nat) (w : World) (y : Nat) (bad : Bool) (h : 0 < a0.size) (hz : ((S a0).getD 0 0).toNat = z) (h8 : z ≤ 8) (hl : z + 1 ≤ a0.size) (hyy : ((S a0).getD 1 0).toNat = y) (hbad : bad = decide (0 < z ∧ y = 0)) :
    Calls Tryz.prog 73 #[.string a0] w fun e w' => e = takeEnd bad (numOf ((S a0).tail.take z)) ((a0.extract 1 a0.size).extract z (a0.size - 1)) ∧ Below w.heap.size w w' := by
  have hx : ∀ h : 0 < a0.size, ((a0[0]'h).toNat : Int) = (z : Int) := fun h => by rw [list_byte a0 0 h, hz]
  clear hz
  have hne : ¬ (a0.toList = []) := by
    intro e; rw [toList_S] at e; rw [size_S, e] at h; simp at h
  have hsz : (a0.extract 1 a0.size).size = a0.size - 1 := by simp
  have hS1 : S (a0.extract 1 a0.size) = (S a0).tail := by
    rw [← B_S a0, extract_B, S_B, S_B, size_B, List.take_length, List.drop_one]
  have hy : ∀ h : 0 < (a0.extract 1 a0.size).size, (((a0.extract 1 a0.size)[0]'h).toNat : Int) = (y : Int) := by
    intro h; rw [list_byte _ 0 h, hS1, ← hyy]; simp [List.getD_eq_getElem?_getD]
  have hcell : ∀ k, k < z → (Lib.bytesWorld w 5 ((a0.extract 1 a0.size).extract 0 z)).cell? ⟨w.heap.size, k, none⟩ = some (.int .u8 (((S a0).tail.getD k 0).toNat : Int)) := by
    intro k hk
    rw [Lib.bytesWorld_cell]
    · have : ((a0.extract 1 a0.size).extract 0 z).data.toList = (S a0).tail.take z := by
        show S _ = _
        rw [← B_S (a0.extract 1 a0.size), hS1, extract_B, S_B, List.drop_zero]
      rw [this]
      simp [List.getD_eq_getElem?_getD, hk]
    · rw [← B_S (a0.extract 1 a0.size), hS1, extract_B, size_B, List.drop_zero, List.length_take]
      have := size_S a0
      rw [List.length_tail]
      omega
  have hlen : (S a0).tail.length = a0.size - 1 := by rw [List.length_tail, ← size_S]
  have HCELL := Lib.hid hcell
  have q0 : (0 < (a0.size : Int)) = True := eq_true (by omega)
  have q1 : (0 < a0.size) = True := eq_true (by omega)
  have q2 : (1 ≤ a0.size) = True := eq_true (by omega)
  have q3 : (1 ≤ (a0.size : Int)) = True := eq_true (by omega)
  have e0 : (a0.toList == ([] : List UInt8)) = false := beq_eq_false_iff_ne.mpr hne
  have e1 : (a0.toList != ([] : List UInt8)) = true := bne_iff_ne.mpr hne
  have e2 : a0.toList.isEmpty = false := by simpa using hne
  have c1 : decide (8 < (z : Int)) = false := decide_eq_false (by omega)
  have c2 : decide (((a0.size - 1 : Nat) : Int) < (z : Int)) = false := decide_eq_false (by omega)
  have c3 : decide (a0.size - 1 < z) = false := decide_eq_false (by omega)
  have c4 : ((z : Int) ≤ ((a0.size - 1 : Nat) : Int)) = True := eq_true (by omega)
  have c5 : (z ≤ a0.size - 1) = True := eq_true (by omega)
  have kb := fun s W => print_bytes (P := Tryz.prog) 9 77 5 Tryz.underlying9 Tryz.underlying77 Tryz.underlying5 s W
  have HBEL : Below w.heap.size w (Lib.bytesWorld w 5 ((a0.extract 1 a0.size).extract 0 z)) := bytes_below (Below.refl _ _) (Nat.le_refl _) _ _
  have HB := Lib.hid HBEL
  have HLEN := Lib.hid hlen
  have HBAD := Lib.hid hbad
  clear hcell hne hbad hlen HBEL hS1 hyy
  go_enter Tryz.func73, Tryz.ntmps73
  go_wp2
  go_loop [6, 8, 29] (fun n b i => ∃ k : Nat, k ≤ z ∧ i = .int .i64 k ∧ n = .int .u64 (numOf ((S a0).tail.take k))) (fun _ _ i => z - (intOf i).toNat)
  case atStart => exact ⟨0, Nat.zero_le _, rfl, rfl⟩
  case round =>
    obtain ⟨k, hk, rfl, rfl⟩ := hrel
    by_cases hlt : k < z
    · have hc := HCELL.out k hlt
      have hb := ((S a0).tail.getD k 0).toNat_lt
      have hn := numOf_small (S a0).tail k (by omega)
      have HS := Lib.hid (numOf_step (S a0).tail k (by have := HLEN.out; omega))
      generalize ((S a0).tail.getD k 0).toNat = b at *
      generalize numOf (List.take k (S a0).tail) = n at *
      have hj := or_join n b hn hb
      have hb0 : (0 : Int) ≤ b := by omega
      have hb1 : (b : Int) ≤ 255 := by omega
      have hn0 : (0 : Int) ≤ n := by omega
      have hn1 : (n : Int) ≤ 72057594037927935 := by omega
      go_wp2
      go_round
      case rel => exact ⟨k + 1, by omega, by go_num, by rw [← HS.out]; go_num⟩
      case measure => simp [intOf]; omega
    · obtain rfl : k = z := by omega
      have gb : k ≤ (a0.extract 1 a0.size).size := by rw [hsz]; omega
      by_cases hz0 : 0 < k
      · have d0 : decide (0 < (k : Int)) = true := decide_eq_true (by omega)
        have d1 : decide (0 < k) = true := decide_eq_true hz0
        have d2 : (0 < a0.size - 1) = True := eq_true (by omega)
        have d3 : (0 < ((a0.size - 1 : Nat) : Int)) = True := eq_true (by omega)
        by_cases hyz : y = 0
        · have y0 : ((y : Int) == 0) = true := beq_iff_eq.mpr (by omega)
          have hbt : bad = true := by rw [HBAD.out]; exact decide_eq_true ⟨hz0, hyz⟩
          have HBT := Lib.hid hbt
          clear hbt hyz
          go_wp2
          go_ret3
          refine ⟨?_, HB.out⟩
          rw [HBT.out]
          unfold takeEnd
          rfl
        · have y0 : ((y : Int) == 0) = false := beq_eq_false_iff_ne.mpr (by omega)
          have hbt : bad = false := by rw [HBAD.out]; exact decide_eq_false (fun e => hyz e.2)
          have HBT := Lib.hid hbt
          clear hbt hyz
          go_wp2
          go_quiet (fail)
          go_wp2
          go_ret3
          refine ⟨?_, pw_below_drewN HB.out _⟩
          rw [HBT.out]
          unfold takeEnd
          rfl
      · have d0 : decide (0 < (k : Int)) = false := decide_eq_false (by omega)
        have d1 : decide (0 < k) = false := decide_eq_false hz0
        have hbt : bad = false := by rw [HBAD.out]; exact decide_eq_false (fun e => hz0 e.1)
        have HBT := Lib.hid hbt
        clear hbt
        go_wp2
        go_quiet (fail)
        go_wp2
        go_ret3
        refine ⟨?_, pw_below_drewN HB.out _⟩
        rw [HBT.out]
        unfold takeEnd
        rfl
theorem wire_Take.calls (a0 : ByteArray) (r1 : Int) (r2 : ByteArray) (r3 : Int) (w : World) (h : wire_Take.f a0 = some (r1, r2, r3)) :
    Calls Tryz.prog 73 #[.string a0] w fun e w' => e = .returned (.tuple #[.int .u64 r1, .string r2, .int .i64 r3]) ∧ Below w.heap.size w w' := by
  unfold wire_Take.f at h
  have hs := size_S a0
  cases hl : S a0 with
  | nil =>
    rw [hl] at h
    simp only [takeL, Option.some.injEq, Prod.mk.injEq] at h
    obtain ⟨rfl, rfl, rfl⟩ := h
    obtain rfl : a0 = B [] := by rw [← hl, B_S]
    exact take_empty w
  | cons z r =>
    have hz : ((S a0).getD 0 0).toNat = z.toNat := by rw [hl]; rfl
    have hy : ((S a0).getD 1 0).toNat = (r.getD 0 0).toNat := by rw [hl]; simp [List.getD_eq_getElem?_getD]
    have hsz : a0.size = r.length + 1 := by rw [hs, hl, List.length_cons]
    have hex : (a0.extract 1 a0.size).extract z.toNat (a0.size - 1) = B (r.drop z.toNat) := by
      rw [← B_S a0, hl, extract_B, extract_B, size_B]
      simp
    have hy0 : (r.getD 0 0).toNat = 0 ↔ r.getD 0 0 = 0 := ⟨fun e => UInt8.toNat_inj.mp (by simpa using e), fun e => by rw [e]; rfl⟩
    rw [hl] at h
    simp only [takeL] at h
    by_cases hc : z.toNat ≤ 8 ∧ z.toNat ≤ r.length
    · have T := take_good a0 z.toNat w (r.getD 0 0).toNat (decide (0 < z.toNat ∧ (r.getD 0 0).toNat = 0)) (by omega) hz hc.1 (by omega) hy rfl
      rw [hex, hl, List.tail_cons] at T
      refine T.mono ?_
      rintro e w' ⟨he, hb⟩
      refine ⟨?_, hb⟩
      rw [he]
      unfold takeEnd
      by_cases hd : 0 < z.toNat ∧ r.getD 0 0 = 0
      · rw [if_neg (fun hh => hh.2.2 hd)] at h
        simp only [Option.some.injEq, Prod.mk.injEq] at h
        obtain ⟨rfl, rfl, rfl⟩ := h
        rw [if_pos (decide_eq_true ⟨hd.1, hy0.mpr hd.2⟩)]
      · rw [if_pos ⟨hc.1, hc.2, hd⟩] at h
        simp only [Option.some.injEq, Prod.mk.injEq] at h
        obtain ⟨rfl, rfl, rfl⟩ := h
        rw [if_neg (by rw [decide_eq_true_iff]; exact fun hh => hd ⟨hh.1, hy0.mp hh.2⟩)]
    · rw [if_neg (fun hh => hc ⟨hh.1, hh.2.1⟩)] at h
      simp only [Option.some.injEq, Prod.mk.injEq] at h
      obtain ⟨rfl, rfl, rfl⟩ := h
      exact take_bad a0 z.toNat w (by omega) hz (by omega)
end Go.Proofs.YtodiffgpefidoaaGreatDoor.P

