/- Slimmed by wip/slim.py. -/
import Derived.Test.YtodiffgpefidoaaGreatDoorXRead
import Derived.Outline
namespace Go.Proofs.YtodiffgpefidoaaGreatDoor.P
open Go.RowKit Go.Proofs.YtodiffgpefidoaaGreatDoorW.PrintWords Go.Proofs.YtodiffgpefidoaaGreatDoorW.PrintLast Go.Proofs.YtodiffgpefidoaaGreatDoorW.PrintMore
attribute [local go_sem ↓] Go.wp_at_zero Go.wp_at_succ
set_option linter.unusedVariables false
set_option linter.unusedSimpArgs false
set_option maxRecDepth 100000 in
set_option maxHeartbeats 2000000 in
theorem read_112 (s : ByteArray) (r : List UInt8) (d : Nat) (w : World) (hb : s.size ≤ 1000000000) (hd : d < 100) (hs : S s = 112 :: r)
   (ih : ∀ (s : ByteArray) (w : World), s.size ≤ 1000000000 → Calls Tryz.prog 83 #[.string s, .int .i64 (d : Int)] w fun e w' => ReadPost w' w.heap.size d s e ∧ Below w.heap.size w w') :
    Calls Tryz.prog 83 #[.string s, .int .i64 ((d + 1 : Nat) : Int)] w fun e w' => ReadPost w' w.heap.size (d + 1) s e ∧ Below w.heap.size w w' := by
  have mk : manyK 112 2 := by unfold manyK; decide
  obtain ⟨hsz, hx, hext, hlen⟩ := ahead s r hs
  have HLEN := Lib.hid hlen
  have hx : ∀ h : 0 < s.size, ((s[0]'h).toNat : Int) = 112 := hx
  clear hlen
  have hne : ¬ (s.toList = []) := by
    intro e; rw [toList_S, hs] at e; simp at e
  have q0 : (0 < (s.size : Int)) = True := eq_true (by omega)
  have q1 : (0 < s.size) = True := eq_true hsz
  have q2 : (1 ≤ s.size) = True := eq_true hsz
  have q3 : (1 ≤ (s.size : Int)) = True := eq_true (by omega)
  have e0 : (s.toList == ([] : List UInt8)) = false := beq_eq_false_iff_ne.mpr hne
  have e1 : (s.toList != ([] : List UInt8)) = true := bne_iff_ne.mpr hne
  have e2 : s.toList.isEmpty = false := by simpa using hne
  obtain ⟨D, hD⟩ : ∃ D : Int, D = ((d + 1 : Nat) : Int) := ⟨_, rfl⟩
  rw [← hD]
  have d0 : (D == 0) = false := beq_eq_false_iff_ne.mpr (by omega)
  have d1 : ¬ (D = 0) := by omega
  have dd : IntKind.i64.wrap (D - 1) = (d : Int) := by rw [i64_at _ (by omega) (by omega)]; omega
  clear hD
  have hu := Tryz.underlying113
  have IH := Lib.hid ih
  have HS := Lib.hid hs
  have MK := Lib.hid mk
  clear hs hne hsz ih mk
  go_enter Tryz.func83, Tryz.ntmps83
  go_wp2
  go_loopw [7, 8, 32] (fun at_ x i wr => ∃ j p : Nat, j ≤ 2 ∧ Hid (p = 1 + offs d r j) ∧ i = .int .i64 j ∧ at_ = .int .i64 (p : Int) ∧ Hid (∀ i, i < j → tlen d (r.drop (offs d r i)) ≠ 0) ∧ RelX w wr d r j) (fun _ _ i _ => 2 - (intOf i).toNat)
  case atStart => exact ⟨0, 1, by omega, Lib.hid rfl, rfl, rfl, Lib.hid (fun i h => absurd h (Nat.not_lt_zero _)), .slice none 0 0, heap_alloc_new w _, Kd.R_nil _ _ _ _ _, (Below.refl _ _).alloc (Nat.le_refl _) _⟩
  case round =>
    obtain ⟨j, p, hj, HP, rfl, rfl, NZ, hrelx⟩ := hrel
    obtain ⟨v, hblk, hR, hbel⟩ := hrelx
    by_cases hlt : j < 2
    · have hol := offs_le d r j
      have a0 : (0 : Int) ≤ (p : Int) := by omega
      have a1 : (p : Int) ≤ (s.size : Int) := by have := HLEN.out; have := HP.out; omega
      have a2 : p ≤ s.size := by omega
      have hcut : s.extract p s.size = B (r.drop (offs d r j)) := by
        rw [← B_S s, HS.out, extract_B, HP.out, size_B, List.take_of_length_le (Nat.le_refl _), Nat.add_comm, List.drop_succ_cons]
      have hj2 : (j : Int) < 2 := by omega
      have HBLK := Lib.hid hblk
      have HR := Lib.hid hR
      have HBEL := Lib.hid hbel
      have nq : ∀ (t : TypeId) (v : Value) (W : World), (Go.binOp .eql 65 (.iface t v) .nilIface).run Tryz.prog W = .ok (.bool false) W := fun t v W => by rfl
      have nq2 : ∀ (W : World), (Go.binOp .eql 65 .nilIface .nilIface).run Tryz.prog W = .ok (.bool true) W := fun W => by rfl
      clear hblk hR hbel
      go_wp2_with (fail)
      refine (IH.out _ _ (by rw [size_B, List.length_drop]; have := HLEN.out; omega)).mono ?_
      rintro e w1 ⟨⟨x, rfl, hx1⟩, hb1⟩
      rcases hx1 with ⟨hz, rfl⟩ | ⟨hz, hnode⟩
      · have HZ := Lib.hid hz
        have HB1 := Lib.hid hb1
        clear hz hb1
        go_wp2
        go_ret
        exact read_nil MK.out HS.out hlt (by rw [← S_B (List.drop (offs d r j) r)]; exact HZ.out) HBEL.out HB1.out
      · have HZ : Hid (tlen d (List.drop (offs d r j) r) ≠ 0) := Lib.hid (by rw [← S_B (List.drop (offs d r j) r)]; exact hz)
        have hforms := nodeS_forms hnode
        clear hnode hz
        obtain ⟨raw, hraw⟩ : ∃ raw : ByteArray, raw = (B (List.drop (offs d r j) r)).extract 0 (tlen d (S (B (List.drop (offs d r j) r)))) := ⟨_, rfl⟩
        rw [← hraw] at hforms
        have HRAW := Lib.hid hraw
        have HB1 := Lib.hid hb1
        have hc1 : w1.cell? ⟨w.heap.size, 1, none⟩ = some v := (blk_cell (blk_below HBLK.out hb1) 1).trans rfl
        have hf1 : w1.frozen? ⟨w.heap.size, 1, none⟩ = false := blk_frozen (blk_below HBLK.out hb1) 1
        have mN : ∀ (n : Nat) (a : ByteArray) (b : Int) (W : World), (method (n + 1) 126 (.agg #[.string a, .int .u64 b]) "letterlock/term.bytes").run Tryz.prog W = .ok (128, .agg #[.string a, .int .u64 b]) W := fun n a b W => by kernel_rfl
        have mA : ∀ (n : Nat) (a : ByteArray) (b : Int) (W : World), (nilAhead (n + 1) 126 (.agg #[.string a, .int .u64 b]) "letterlock/term.bytes").run Tryz.prog W = .ok (some false) W := fun n a b W => by kernel_rfl
        have mN2 : ∀ (n : Nat) (a : ByteArray) (b : ByteArray) (W : World), (method (n + 1) 128 (.agg #[.string a, .string b]) "letterlock/term.bytes").run Tryz.prog W = .ok (129, .agg #[.string a, .string b]) W := fun n a b W => by kernel_rfl
        have mA2 : ∀ (n : Nat) (a : ByteArray) (b : ByteArray) (W : World), (nilAhead (n + 1) 128 (.agg #[.string a, .string b]) "letterlock/term.bytes").run Tryz.prog W = .ok (some false) W := fun n a b W => by kernel_rfl
        have mN3 : ∀ (n : Nat) (a : ByteArray) (A : Option Addr) (m c : Nat) (W : World), (method (n + 1) 113 (.agg #[.string a, .slice A m c]) "letterlock/term.bytes").run Tryz.prog W = .ok (126, .agg #[.string a, .slice A m c]) W := fun n a A m c W => by kernel_rfl
        have mA3 : ∀ (n : Nat) (a : ByteArray) (A : Option Addr) (m c : Nat) (W : World), (nilAhead (n + 1) 113 (.agg #[.string a, .slice A m c]) "letterlock/term.bytes").run Tryz.prog W = .ok (some false) W := fun n a A m c W => by kernel_rfl
        have hrs : raw.size = tlen d (List.drop (offs d r j) r) := by rw [hraw, ByteArray.size_extract, size_B, S_B]; have := tlen_le d (List.drop (offs d r j) r); omega
        have HRS := Lib.hid hrs
        have hrs1 : p + raw.size ≤ s.size := by rw [hrs, HP.out]; have h1 := tlen_le d (List.drop (offs d r j) r); have h2 := HLEN.out; rw [List.length_drop] at h1; omega
        have hwr : IntKind.i64.wrap ((p : Int) + (raw.size : Int)) = ((p + raw.size : Nat) : Int) := by rw [i64_at _ (by omega) (by omega)]; omega
        have hgl : w.heap.size < w1.heap.size := blk_lt (blk_below HBLK.out HB1.out)
        have hRw1 := Kd.R_below HR.out HB1.out
        have HRW1 := Lib.hid hRw1
        have hl2 : (((pts d r j).map B).length + 1) * 16 ≤ 140737488355328 := by rw [List.length_map, pts_len]; omega
        clear hb1 hraw hrs hRw1
        rcases hforms with ⟨q, rfl⟩ | ⟨q, rfl⟩ | ⟨A, m, c, rfl⟩
        all_goals (
          go_wp2
          go_region_law (first | (refine Kd.R_append_step Kd.string (w0 := w2) (w.heap.size + 1) (by rfl) (.tmp 43) (.tmp 46) 25 9 (.string ⟨#[]⟩) 16 (by rfl) Tryz.underlying25 info9 (by rfl) (by decide) (by decide) v ((pts d r j).map B) raw [.string raw] (fun _ => True) (fun _ => False) (by rfl) (by rfl) rfl (fun _ h => h.elim) (fun _ _ => trivial) (Kd.R_below (Kd.R_drew HRW1.out) HB2.out) (Below.refl _ _) (Nat.succ_le_of_lt hz2) hl2 ?_; intro v1 w3 hR1 hB3 hg3 hat3; obtain ⟨A1, cp1, rfl⟩ := Kd.R_slice hR1; have hc3 : w3.cell? ⟨w.heap.size, 1, none⟩ = some v := (hB3.cell (p := ⟨w.heap.size, 1, none⟩) (by simp)).trans hc2; have hf3 : w3.frozen? ⟨w.heap.size, 1, none⟩ = false := (hB3.frozen (p := ⟨w.heap.size, 1, none⟩) (by simp)).trans hf2; have HR1 := Lib.hid hR1; have HB3 := Lib.hid hB3; clear hR1 hB3 hg3 hat3 hf2a hc2a) | (go_simp; (first | (go_at_call 128; refine (bytes_number _ _ _).mono ?_) | (go_at_call 129; refine (bytes_words _ _ _).mono ?_) | (go_at_call 126; refine (bytes_parts _ _ _ _ _).mono ?_)); rintro e w2 ⟨rfl, hb⟩; have hc2 : w2.cell? ⟨w.heap.size, 1, none⟩ = some v := pw_cell_below hb (by simpa using hc1); have hf2 : w2.frozen? ⟨w.heap.size, 1, none⟩ = false := (hb.frozen (p := ⟨w.heap.size, 1, none⟩) (by simp; omega)).trans (by simpa using hf1); have hz2 : w.heap.size < w2.heap.size := Nat.lt_of_lt_of_le hgl (by have := hb.size; simpa using this); have hf2a : ∀ o, (w2.alloc o).frozen? ⟨w.heap.size, 1, none⟩ = false := fun o => ((below_alloc (Below.refl w2.heap.size w2) o).frozen (p := ⟨w.heap.size, 1, none⟩) hz2).trans hf2; have hc2a : ∀ o, (w2.alloc o).cell? ⟨w.heap.size, 1, none⟩ = some v := fun o => pw_cell_below (below_alloc (Below.refl w2.heap.size w2) o) hc2; have HB2 := Lib.hid hb; clear hb))
          all_goals (
            go_wp2_with (fail)
            first
              | refine (bytes_number _ _ _).mono ?_
              | refine (bytes_words _ _ _).mono ?_
              | refine (bytes_parts _ _ _ _ _).mono ?_
            rintro e w4 ⟨rfl, hb4⟩
            have HB4 := Lib.hid hb4
            clear hb4
            go_wp2
            go_roundw
            case measure => simp [intOf]; omega
            case rel => exact ⟨j + 1, p + raw.size, by omega, Lib.hid (by rw [offs, HP.out, HRS.out, Nat.add_assoc]), by go_num, by go_num, Lib.hid (fun i hi => by rcases Nat.lt_succ_iff_lt_or_eq.mp hi with h | rfl; exact NZ.out i h; exact HZ.out), relx_next HBLK.out HBEL.out HB1.out HB2.out HB3.out HR1.out (by simpa using HB4.out) (by rw [HRAW.out, extract_B, S_B, List.drop_zero])⟩))
    · obtain rfl : j = 2 := by omega
      obtain ⟨A, c, rfl⟩ := Kd.R_slice hR
      have hl : ((pts d r 2).map B).length = 2 := by rw [List.length_map, pts_len]
      rw [hl] at hblk hR
      have hcA : wr.cell? ⟨w.heap.size, 0, none⟩ = some (.string ⟨#[]⟩) := (blk_cell hblk 0).trans rfl
      have hcB : wr.cell? ⟨w.heap.size, 1, none⟩ = some (.slice A 2 c) := (blk_cell hblk 1).trans rfl
      have hf : ∀ o, wr.frozen? ⟨w.heap.size, o, none⟩ = false := fun o => blk_frozen hblk o
      have HBLK := Lib.hid hblk
      have HR := Lib.hid hR
      have HBEL := Lib.hid hbel
      have a0 : (0 : Int) ≤ (p : Int) := by omega
      have hol := offs_le d r 2
      have a1 : (p : Int) ≤ (s.size : Int) := by have := HLEN.out; have := HP.out; omega
      have a2 : p ≤ s.size := by omega
      clear hblk hR hbel
      go_wp2
      go_ret
      exact read_end _ MK.out (fun h => absurd h (by decide)) HS.out NZ.out (by decide) HP.out HR.out HBEL.out
set_option maxRecDepth 100000 in
set_option maxHeartbeats 2000000 in
theorem read_104 (s : ByteArray) (r : List UInt8) (d : Nat) (w : World) (hb : s.size ≤ 1000000000) (hd : d < 100) (hs : S s = 104 :: r)
   (ih : ∀ (s : ByteArray) (w : World), s.size ≤ 1000000000 → Calls Tryz.prog 83 #[.string s, .int .i64 (d : Int)] w fun e w' => ReadPost w' w.heap.size d s e ∧ Below w.heap.size w w') :
    Calls Tryz.prog 83 #[.string s, .int .i64 ((d + 1 : Nat) : Int)] w fun e w' => ReadPost w' w.heap.size (d + 1) s e ∧ Below w.heap.size w w' := by
  have mk : manyK 104 1 := by unfold manyK; decide
  obtain ⟨hsz, hx, hext, hlen⟩ := ahead s r hs
  have HLEN := Lib.hid hlen
  have hx : ∀ h : 0 < s.size, ((s[0]'h).toNat : Int) = 104 := hx
  clear hlen
  have hne : ¬ (s.toList = []) := by
    intro e; rw [toList_S, hs] at e; simp at e
  have q0 : (0 < (s.size : Int)) = True := eq_true (by omega)
  have q1 : (0 < s.size) = True := eq_true hsz
  have q2 : (1 ≤ s.size) = True := eq_true hsz
  have q3 : (1 ≤ (s.size : Int)) = True := eq_true (by omega)
  have e0 : (s.toList == ([] : List UInt8)) = false := beq_eq_false_iff_ne.mpr hne
  have e1 : (s.toList != ([] : List UInt8)) = true := bne_iff_ne.mpr hne
  have e2 : s.toList.isEmpty = false := by simpa using hne
  obtain ⟨D, hD⟩ : ∃ D : Int, D = ((d + 1 : Nat) : Int) := ⟨_, rfl⟩
  rw [← hD]
  have d0 : (D == 0) = false := beq_eq_false_iff_ne.mpr (by omega)
  have d1 : ¬ (D = 0) := by omega
  have dd : IntKind.i64.wrap (D - 1) = (d : Int) := by rw [i64_at _ (by omega) (by omega)]; omega
  clear hD
  have hu := Tryz.underlying113
  have IH := Lib.hid ih
  have HS := Lib.hid hs
  have MK := Lib.hid mk
  clear hs hne hsz ih mk
  go_enter Tryz.func83, Tryz.ntmps83
  go_wp2
  go_loopw [7, 8, 32] (fun at_ x i wr => ∃ j p : Nat, j ≤ 1 ∧ Hid (p = 1 + offs d r j) ∧ i = .int .i64 j ∧ at_ = .int .i64 (p : Int) ∧ Hid (∀ i, i < j → tlen d (r.drop (offs d r i)) ≠ 0) ∧ RelX w wr d r j) (fun _ _ i _ => 1 - (intOf i).toNat)
  case atStart => exact ⟨0, 1, by omega, Lib.hid rfl, rfl, rfl, Lib.hid (fun i h => absurd h (Nat.not_lt_zero _)), .slice none 0 0, heap_alloc_new w _, Kd.R_nil _ _ _ _ _, (Below.refl _ _).alloc (Nat.le_refl _) _⟩
  case round =>
    obtain ⟨j, p, hj, HP, rfl, rfl, NZ, hrelx⟩ := hrel
    obtain ⟨v, hblk, hR, hbel⟩ := hrelx
    by_cases hlt : j < 1
    · have hol := offs_le d r j
      have a0 : (0 : Int) ≤ (p : Int) := by omega
      have a1 : (p : Int) ≤ (s.size : Int) := by have := HLEN.out; have := HP.out; omega
      have a2 : p ≤ s.size := by omega
      have hcut : s.extract p s.size = B (r.drop (offs d r j)) := by
        rw [← B_S s, HS.out, extract_B, HP.out, size_B, List.take_of_length_le (Nat.le_refl _), Nat.add_comm, List.drop_succ_cons]
      have hj2 : (j : Int) < 1 := by omega
      have HBLK := Lib.hid hblk
      have HR := Lib.hid hR
      have HBEL := Lib.hid hbel
      have nq : ∀ (t : TypeId) (v : Value) (W : World), (Go.binOp .eql 65 (.iface t v) .nilIface).run Tryz.prog W = .ok (.bool false) W := fun t v W => by rfl
      have nq2 : ∀ (W : World), (Go.binOp .eql 65 .nilIface .nilIface).run Tryz.prog W = .ok (.bool true) W := fun W => by rfl
      clear hblk hR hbel
      go_wp2_with (fail)
      refine (IH.out _ _ (by rw [size_B, List.length_drop]; have := HLEN.out; omega)).mono ?_
      rintro e w1 ⟨⟨x, rfl, hx1⟩, hb1⟩
      rcases hx1 with ⟨hz, rfl⟩ | ⟨hz, hnode⟩
      · have HZ := Lib.hid hz
        have HB1 := Lib.hid hb1
        clear hz hb1
        go_wp2
        go_ret
        exact read_nil MK.out HS.out hlt (by rw [← S_B (List.drop (offs d r j) r)]; exact HZ.out) HBEL.out HB1.out
      · have HZ : Hid (tlen d (List.drop (offs d r j) r) ≠ 0) := Lib.hid (by rw [← S_B (List.drop (offs d r j) r)]; exact hz)
        have hforms := nodeS_forms hnode
        clear hnode hz
        obtain ⟨raw, hraw⟩ : ∃ raw : ByteArray, raw = (B (List.drop (offs d r j) r)).extract 0 (tlen d (S (B (List.drop (offs d r j) r)))) := ⟨_, rfl⟩
        rw [← hraw] at hforms
        have HRAW := Lib.hid hraw
        have HB1 := Lib.hid hb1
        have hc1 : w1.cell? ⟨w.heap.size, 1, none⟩ = some v := (blk_cell (blk_below HBLK.out hb1) 1).trans rfl
        have hf1 : w1.frozen? ⟨w.heap.size, 1, none⟩ = false := blk_frozen (blk_below HBLK.out hb1) 1
        have mN : ∀ (n : Nat) (a : ByteArray) (b : Int) (W : World), (method (n + 1) 126 (.agg #[.string a, .int .u64 b]) "letterlock/term.bytes").run Tryz.prog W = .ok (128, .agg #[.string a, .int .u64 b]) W := fun n a b W => by kernel_rfl
        have mA : ∀ (n : Nat) (a : ByteArray) (b : Int) (W : World), (nilAhead (n + 1) 126 (.agg #[.string a, .int .u64 b]) "letterlock/term.bytes").run Tryz.prog W = .ok (some false) W := fun n a b W => by kernel_rfl
        have mN2 : ∀ (n : Nat) (a : ByteArray) (b : ByteArray) (W : World), (method (n + 1) 128 (.agg #[.string a, .string b]) "letterlock/term.bytes").run Tryz.prog W = .ok (129, .agg #[.string a, .string b]) W := fun n a b W => by kernel_rfl
        have mA2 : ∀ (n : Nat) (a : ByteArray) (b : ByteArray) (W : World), (nilAhead (n + 1) 128 (.agg #[.string a, .string b]) "letterlock/term.bytes").run Tryz.prog W = .ok (some false) W := fun n a b W => by kernel_rfl
        have mN3 : ∀ (n : Nat) (a : ByteArray) (A : Option Addr) (m c : Nat) (W : World), (method (n + 1) 113 (.agg #[.string a, .slice A m c]) "letterlock/term.bytes").run Tryz.prog W = .ok (126, .agg #[.string a, .slice A m c]) W := fun n a A m c W => by kernel_rfl
        have mA3 : ∀ (n : Nat) (a : ByteArray) (A : Option Addr) (m c : Nat) (W : World), (nilAhead (n + 1) 113 (.agg #[.string a, .slice A m c]) "letterlock/term.bytes").run Tryz.prog W = .ok (some false) W := fun n a A m c W => by kernel_rfl
        have hrs : raw.size = tlen d (List.drop (offs d r j) r) := by rw [hraw, ByteArray.size_extract, size_B, S_B]; have := tlen_le d (List.drop (offs d r j) r); omega
        have HRS := Lib.hid hrs
        have hrs1 : p + raw.size ≤ s.size := by rw [hrs, HP.out]; have h1 := tlen_le d (List.drop (offs d r j) r); have h2 := HLEN.out; rw [List.length_drop] at h1; omega
        have hwr : IntKind.i64.wrap ((p : Int) + (raw.size : Int)) = ((p + raw.size : Nat) : Int) := by rw [i64_at _ (by omega) (by omega)]; omega
        have hgl : w.heap.size < w1.heap.size := blk_lt (blk_below HBLK.out HB1.out)
        have hRw1 := Kd.R_below HR.out HB1.out
        have HRW1 := Lib.hid hRw1
        have hl2 : (((pts d r j).map B).length + 1) * 16 ≤ 140737488355328 := by rw [List.length_map, pts_len]; omega
        clear hb1 hraw hrs hRw1
        rcases hforms with ⟨q, rfl⟩ | ⟨q, rfl⟩ | ⟨A, m, c, rfl⟩
        all_goals (
          go_wp2
          go_region_law (first | (refine Kd.R_append_step Kd.string (w0 := w2) (w.heap.size + 1) (by rfl) (.tmp 43) (.tmp 46) 25 9 (.string ⟨#[]⟩) 16 (by rfl) Tryz.underlying25 info9 (by rfl) (by decide) (by decide) v ((pts d r j).map B) raw [.string raw] (fun _ => True) (fun _ => False) (by rfl) (by rfl) rfl (fun _ h => h.elim) (fun _ _ => trivial) (Kd.R_below (Kd.R_drew HRW1.out) HB2.out) (Below.refl _ _) (Nat.succ_le_of_lt hz2) hl2 ?_; intro v1 w3 hR1 hB3 hg3 hat3; obtain ⟨A1, cp1, rfl⟩ := Kd.R_slice hR1; have hc3 : w3.cell? ⟨w.heap.size, 1, none⟩ = some v := (hB3.cell (p := ⟨w.heap.size, 1, none⟩) (by simp)).trans hc2; have hf3 : w3.frozen? ⟨w.heap.size, 1, none⟩ = false := (hB3.frozen (p := ⟨w.heap.size, 1, none⟩) (by simp)).trans hf2; have HR1 := Lib.hid hR1; have HB3 := Lib.hid hB3; clear hR1 hB3 hg3 hat3 hf2a hc2a) | (go_simp; (first | (go_at_call 128; refine (bytes_number _ _ _).mono ?_) | (go_at_call 129; refine (bytes_words _ _ _).mono ?_) | (go_at_call 126; refine (bytes_parts _ _ _ _ _).mono ?_)); rintro e w2 ⟨rfl, hb⟩; have hc2 : w2.cell? ⟨w.heap.size, 1, none⟩ = some v := pw_cell_below hb (by simpa using hc1); have hf2 : w2.frozen? ⟨w.heap.size, 1, none⟩ = false := (hb.frozen (p := ⟨w.heap.size, 1, none⟩) (by simp; omega)).trans (by simpa using hf1); have hz2 : w.heap.size < w2.heap.size := Nat.lt_of_lt_of_le hgl (by have := hb.size; simpa using this); have hf2a : ∀ o, (w2.alloc o).frozen? ⟨w.heap.size, 1, none⟩ = false := fun o => ((below_alloc (Below.refl w2.heap.size w2) o).frozen (p := ⟨w.heap.size, 1, none⟩) hz2).trans hf2; have hc2a : ∀ o, (w2.alloc o).cell? ⟨w.heap.size, 1, none⟩ = some v := fun o => pw_cell_below (below_alloc (Below.refl w2.heap.size w2) o) hc2; have HB2 := Lib.hid hb; clear hb))
          all_goals (
            go_wp2_with (fail)
            first
              | refine (bytes_number _ _ _).mono ?_
              | refine (bytes_words _ _ _).mono ?_
              | refine (bytes_parts _ _ _ _ _).mono ?_
            rintro e w4 ⟨rfl, hb4⟩
            have HB4 := Lib.hid hb4
            clear hb4
            go_wp2
            go_roundw
            case measure => simp [intOf]; omega
            case rel => exact ⟨j + 1, p + raw.size, by omega, Lib.hid (by rw [offs, HP.out, HRS.out, Nat.add_assoc]), by go_num, by go_num, Lib.hid (fun i hi => by rcases Nat.lt_succ_iff_lt_or_eq.mp hi with h | rfl; exact NZ.out i h; exact HZ.out), relx_next HBLK.out HBEL.out HB1.out HB2.out HB3.out HR1.out (by simpa using HB4.out) (by rw [HRAW.out, extract_B, S_B, List.drop_zero])⟩))
    · obtain rfl : j = 1 := by omega
      obtain ⟨A, c, rfl⟩ := Kd.R_slice hR
      have hl : ((pts d r 1).map B).length = 1 := by rw [List.length_map, pts_len]
      rw [hl] at hblk hR
      have hcA : wr.cell? ⟨w.heap.size, 0, none⟩ = some (.string ⟨#[]⟩) := (blk_cell hblk 0).trans rfl
      have hcB : wr.cell? ⟨w.heap.size, 1, none⟩ = some (.slice A 1 c) := (blk_cell hblk 1).trans rfl
      have hf : ∀ o, wr.frozen? ⟨w.heap.size, o, none⟩ = false := fun o => blk_frozen hblk o
      have HBLK := Lib.hid hblk
      have HR := Lib.hid hR
      have HBEL := Lib.hid hbel
      have a0 : (0 : Int) ≤ (p : Int) := by omega
      have hol := offs_le d r 1
      have a1 : (p : Int) ≤ (s.size : Int) := by have := HLEN.out; have := HP.out; omega
      have a2 : p ≤ s.size := by omega
      clear hblk hR hbel
      go_wp2
      go_ret
      exact read_end _ MK.out (fun h => absurd h (by decide)) HS.out NZ.out (by decide) HP.out HR.out HBEL.out
set_option maxRecDepth 100000 in
set_option maxHeartbeats 2000000 in
theorem read_115 (s : ByteArray) (r : List UInt8) (d : Nat) (w : World) (hb : s.size ≤ 1000000000) (hd : d < 100) (hs : S s = 115 :: r)
   (ih : ∀ (s : ByteArray) (w : World), s.size ≤ 1000000000 → Calls Tryz.prog 83 #[.string s, .int .i64 (d : Int)] w fun e w' => ReadPost w' w.heap.size d s e ∧ Below w.heap.size w w') :
    Calls Tryz.prog 83 #[.string s, .int .i64 ((d + 1 : Nat) : Int)] w fun e w' => ReadPost w' w.heap.size (d + 1) s e ∧ Below w.heap.size w w' := by
  have mk : manyK 115 2 := by unfold manyK; decide
  obtain ⟨hsz, hx, hext, hlen⟩ := ahead s r hs
  have HLEN := Lib.hid hlen
  have hx : ∀ h : 0 < s.size, ((s[0]'h).toNat : Int) = 115 := hx
  clear hlen
  have hne : ¬ (s.toList = []) := by
    intro e; rw [toList_S, hs] at e; simp at e
  have q0 : (0 < (s.size : Int)) = True := eq_true (by omega)
  have q1 : (0 < s.size) = True := eq_true hsz
  have q2 : (1 ≤ s.size) = True := eq_true hsz
  have q3 : (1 ≤ (s.size : Int)) = True := eq_true (by omega)
  have e0 : (s.toList == ([] : List UInt8)) = false := beq_eq_false_iff_ne.mpr hne
  have e1 : (s.toList != ([] : List UInt8)) = true := bne_iff_ne.mpr hne
  have e2 : s.toList.isEmpty = false := by simpa using hne
  obtain ⟨D, hD⟩ : ∃ D : Int, D = ((d + 1 : Nat) : Int) := ⟨_, rfl⟩
  rw [← hD]
  have d0 : (D == 0) = false := beq_eq_false_iff_ne.mpr (by omega)
  have d1 : ¬ (D = 0) := by omega
  have dd : IntKind.i64.wrap (D - 1) = (d : Int) := by rw [i64_at _ (by omega) (by omega)]; omega
  clear hD
  have hu := Tryz.underlying113
  have IH := Lib.hid ih
  have HS := Lib.hid hs
  have MK := Lib.hid mk
  clear hs hne hsz ih mk
  go_enter Tryz.func83, Tryz.ntmps83
  go_wp2
  go_loopw [7, 8, 32] (fun at_ x i wr => ∃ j p : Nat, j ≤ 2 ∧ Hid (p = 1 + offs d r j) ∧ i = .int .i64 j ∧ at_ = .int .i64 (p : Int) ∧ Hid (∀ i, i < j → tlen d (r.drop (offs d r i)) ≠ 0) ∧ RelX w wr d r j) (fun _ _ i _ => 2 - (intOf i).toNat)
  case atStart => exact ⟨0, 1, by omega, Lib.hid rfl, rfl, rfl, Lib.hid (fun i h => absurd h (Nat.not_lt_zero _)), .slice none 0 0, heap_alloc_new w _, Kd.R_nil _ _ _ _ _, (Below.refl _ _).alloc (Nat.le_refl _) _⟩
  case round =>
    obtain ⟨j, p, hj, HP, rfl, rfl, NZ, hrelx⟩ := hrel
    obtain ⟨v, hblk, hR, hbel⟩ := hrelx
    by_cases hlt : j < 2
    · have hol := offs_le d r j
      have a0 : (0 : Int) ≤ (p : Int) := by omega
      have a1 : (p : Int) ≤ (s.size : Int) := by have := HLEN.out; have := HP.out; omega
      have a2 : p ≤ s.size := by omega
      have hcut : s.extract p s.size = B (r.drop (offs d r j)) := by
        rw [← B_S s, HS.out, extract_B, HP.out, size_B, List.take_of_length_le (Nat.le_refl _), Nat.add_comm, List.drop_succ_cons]
      have hj2 : (j : Int) < 2 := by omega
      have HBLK := Lib.hid hblk
      have HR := Lib.hid hR
      have HBEL := Lib.hid hbel
      have nq : ∀ (t : TypeId) (v : Value) (W : World), (Go.binOp .eql 65 (.iface t v) .nilIface).run Tryz.prog W = .ok (.bool false) W := fun t v W => by rfl
      have nq2 : ∀ (W : World), (Go.binOp .eql 65 .nilIface .nilIface).run Tryz.prog W = .ok (.bool true) W := fun W => by rfl
      clear hblk hR hbel
      go_wp2_with (fail)
      refine (IH.out _ _ (by rw [size_B, List.length_drop]; have := HLEN.out; omega)).mono ?_
      rintro e w1 ⟨⟨x, rfl, hx1⟩, hb1⟩
      rcases hx1 with ⟨hz, rfl⟩ | ⟨hz, hnode⟩
      · have HZ := Lib.hid hz
        have HB1 := Lib.hid hb1
        clear hz hb1
        go_wp2
        go_ret
        exact read_nil MK.out HS.out hlt (by rw [← S_B (List.drop (offs d r j) r)]; exact HZ.out) HBEL.out HB1.out
      · have HZ : Hid (tlen d (List.drop (offs d r j) r) ≠ 0) := Lib.hid (by rw [← S_B (List.drop (offs d r j) r)]; exact hz)
        have hforms := nodeS_forms hnode
        clear hnode hz
        obtain ⟨raw, hraw⟩ : ∃ raw : ByteArray, raw = (B (List.drop (offs d r j) r)).extract 0 (tlen d (S (B (List.drop (offs d r j) r)))) := ⟨_, rfl⟩
        rw [← hraw] at hforms
        have HRAW := Lib.hid hraw
        have HB1 := Lib.hid hb1
        have hc1 : w1.cell? ⟨w.heap.size, 1, none⟩ = some v := (blk_cell (blk_below HBLK.out hb1) 1).trans rfl
        have hf1 : w1.frozen? ⟨w.heap.size, 1, none⟩ = false := blk_frozen (blk_below HBLK.out hb1) 1
        have mN : ∀ (n : Nat) (a : ByteArray) (b : Int) (W : World), (method (n + 1) 126 (.agg #[.string a, .int .u64 b]) "letterlock/term.bytes").run Tryz.prog W = .ok (128, .agg #[.string a, .int .u64 b]) W := fun n a b W => by kernel_rfl
        have mA : ∀ (n : Nat) (a : ByteArray) (b : Int) (W : World), (nilAhead (n + 1) 126 (.agg #[.string a, .int .u64 b]) "letterlock/term.bytes").run Tryz.prog W = .ok (some false) W := fun n a b W => by kernel_rfl
        have mN2 : ∀ (n : Nat) (a : ByteArray) (b : ByteArray) (W : World), (method (n + 1) 128 (.agg #[.string a, .string b]) "letterlock/term.bytes").run Tryz.prog W = .ok (129, .agg #[.string a, .string b]) W := fun n a b W => by kernel_rfl
        have mA2 : ∀ (n : Nat) (a : ByteArray) (b : ByteArray) (W : World), (nilAhead (n + 1) 128 (.agg #[.string a, .string b]) "letterlock/term.bytes").run Tryz.prog W = .ok (some false) W := fun n a b W => by kernel_rfl
        have mN3 : ∀ (n : Nat) (a : ByteArray) (A : Option Addr) (m c : Nat) (W : World), (method (n + 1) 113 (.agg #[.string a, .slice A m c]) "letterlock/term.bytes").run Tryz.prog W = .ok (126, .agg #[.string a, .slice A m c]) W := fun n a A m c W => by kernel_rfl
        have mA3 : ∀ (n : Nat) (a : ByteArray) (A : Option Addr) (m c : Nat) (W : World), (nilAhead (n + 1) 113 (.agg #[.string a, .slice A m c]) "letterlock/term.bytes").run Tryz.prog W = .ok (some false) W := fun n a A m c W => by kernel_rfl
        have hrs : raw.size = tlen d (List.drop (offs d r j) r) := by rw [hraw, ByteArray.size_extract, size_B, S_B]; have := tlen_le d (List.drop (offs d r j) r); omega
        have HRS := Lib.hid hrs
        have hrs1 : p + raw.size ≤ s.size := by rw [hrs, HP.out]; have h1 := tlen_le d (List.drop (offs d r j) r); have h2 := HLEN.out; rw [List.length_drop] at h1; omega
        have hwr : IntKind.i64.wrap ((p : Int) + (raw.size : Int)) = ((p + raw.size : Nat) : Int) := by rw [i64_at _ (by omega) (by omega)]; omega
        have hgl : w.heap.size < w1.heap.size := blk_lt (blk_below HBLK.out HB1.out)
        have hRw1 := Kd.R_below HR.out HB1.out
        have HRW1 := Lib.hid hRw1
        have hl2 : (((pts d r j).map B).length + 1) * 16 ≤ 140737488355328 := by rw [List.length_map, pts_len]; omega
        clear hb1 hraw hrs hRw1
        rcases hforms with ⟨q, rfl⟩ | ⟨q, rfl⟩ | ⟨A, m, c, rfl⟩
        all_goals (
          go_wp2
          go_region_law (first | (refine Kd.R_append_step Kd.string (w0 := w2) (w.heap.size + 1) (by rfl) (.tmp 43) (.tmp 46) 25 9 (.string ⟨#[]⟩) 16 (by rfl) Tryz.underlying25 info9 (by rfl) (by decide) (by decide) v ((pts d r j).map B) raw [.string raw] (fun _ => True) (fun _ => False) (by rfl) (by rfl) rfl (fun _ h => h.elim) (fun _ _ => trivial) (Kd.R_below (Kd.R_drew HRW1.out) HB2.out) (Below.refl _ _) (Nat.succ_le_of_lt hz2) hl2 ?_; intro v1 w3 hR1 hB3 hg3 hat3; obtain ⟨A1, cp1, rfl⟩ := Kd.R_slice hR1; have hc3 : w3.cell? ⟨w.heap.size, 1, none⟩ = some v := (hB3.cell (p := ⟨w.heap.size, 1, none⟩) (by simp)).trans hc2; have hf3 : w3.frozen? ⟨w.heap.size, 1, none⟩ = false := (hB3.frozen (p := ⟨w.heap.size, 1, none⟩) (by simp)).trans hf2; have HR1 := Lib.hid hR1; have HB3 := Lib.hid hB3; clear hR1 hB3 hg3 hat3 hf2a hc2a) | (go_simp; (first | (go_at_call 128; refine (bytes_number _ _ _).mono ?_) | (go_at_call 129; refine (bytes_words _ _ _).mono ?_) | (go_at_call 126; refine (bytes_parts _ _ _ _ _).mono ?_)); rintro e w2 ⟨rfl, hb⟩; have hc2 : w2.cell? ⟨w.heap.size, 1, none⟩ = some v := pw_cell_below hb (by simpa using hc1); have hf2 : w2.frozen? ⟨w.heap.size, 1, none⟩ = false := (hb.frozen (p := ⟨w.heap.size, 1, none⟩) (by simp; omega)).trans (by simpa using hf1); have hz2 : w.heap.size < w2.heap.size := Nat.lt_of_lt_of_le hgl (by have := hb.size; simpa using this); have hf2a : ∀ o, (w2.alloc o).frozen? ⟨w.heap.size, 1, none⟩ = false := fun o => ((below_alloc (Below.refl w2.heap.size w2) o).frozen (p := ⟨w.heap.size, 1, none⟩) hz2).trans hf2; have hc2a : ∀ o, (w2.alloc o).cell? ⟨w.heap.size, 1, none⟩ = some v := fun o => pw_cell_below (below_alloc (Below.refl w2.heap.size w2) o) hc2; have HB2 := Lib.hid hb; clear hb))
          all_goals (
            go_wp2_with (fail)
            first
              | refine (bytes_number _ _ _).mono ?_
              | refine (bytes_words _ _ _).mono ?_
              | refine (bytes_parts _ _ _ _ _).mono ?_
            rintro e w4 ⟨rfl, hb4⟩
            have HB4 := Lib.hid hb4
            clear hb4
            go_wp2
            go_roundw
            case measure => simp [intOf]; omega
            case rel => exact ⟨j + 1, p + raw.size, by omega, Lib.hid (by rw [offs, HP.out, HRS.out, Nat.add_assoc]), by go_num, by go_num, Lib.hid (fun i hi => by rcases Nat.lt_succ_iff_lt_or_eq.mp hi with h | rfl; exact NZ.out i h; exact HZ.out), relx_next HBLK.out HBEL.out HB1.out HB2.out HB3.out HR1.out (by simpa using HB4.out) (by rw [HRAW.out, extract_B, S_B, List.drop_zero])⟩))
    · obtain rfl : j = 2 := by omega
      obtain ⟨A, c, rfl⟩ := Kd.R_slice hR
      have hl : ((pts d r 2).map B).length = 2 := by rw [List.length_map, pts_len]
      rw [hl] at hblk hR
      have hcA : wr.cell? ⟨w.heap.size, 0, none⟩ = some (.string ⟨#[]⟩) := (blk_cell hblk 0).trans rfl
      have hcB : wr.cell? ⟨w.heap.size, 1, none⟩ = some (.slice A 2 c) := (blk_cell hblk 1).trans rfl
      have hf : ∀ o, wr.frozen? ⟨w.heap.size, o, none⟩ = false := fun o => blk_frozen hblk o
      have HBLK := Lib.hid hblk
      have HR := Lib.hid hR
      have HBEL := Lib.hid hbel
      have a0 : (0 : Int) ≤ (p : Int) := by omega
      have hol := offs_le d r 2
      have a1 : (p : Int) ≤ (s.size : Int) := by have := HLEN.out; have := HP.out; omega
      have a2 : p ≤ s.size := by omega
      clear hblk hR hbel
      go_wp2
      go_ret
      exact read_end _ MK.out (fun h => absurd h (by decide)) HS.out NZ.out (by decide) HP.out HR.out HBEL.out
end Go.Proofs.YtodiffgpefidoaaGreatDoor.P

