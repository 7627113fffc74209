/- Slimmed by wip/slim.py. -/
import Derived.Test.YtodiffgpefidoaaGreatDoorXReadK
import Derived.Test.YtodiffgpefidoaaGreatDoorXReadL
namespace Go.Proofs.YtodiffgpefidoaaGreatDoor.P
open Go.RowKit Go.Proofs.YtodiffgpefidoaaGreatDoorW.PrintWords Go.Proofs.YtodiffgpefidoaaGreatDoorW.PrintLast Go.Proofs.YtodiffgpefidoaaGreatDoorW.PrintMore
attribute [local go_sem ↓] Go.wp_at_zero Go.wp_at_succ
set_option linter.unusedVariables false
set_option linter.unusedSimpArgs false
abbrev ReadOk (d : Nat) (s : ByteArray) (w : World) : Prop := Calls Tryz.prog 83 #[.string s, .int .i64 (d : Int)] w fun e w' => ReadPost w' w.heap.size d s e ∧ Below w.heap.size w w'
theorem read_empty (s : ByteArray) (d : Nat) (w : World) (hs : S s = []) : ReadOk d s w := by
  have e0 : s.toList = [] := by rw [toList_S]; exact hs
  have es : s = ⟨#[]⟩ := by rw [← B_S s, hs]; rfl
  have HS := Lib.hid hs
  unfold ReadOk
  generalize hD : (d : Int) = D
  clear hD hs
  subst es
  go_enter Tryz.func83, Tryz.ntmps83
  go_wp2
  all_goals go_ret
  all_goals exact ⟨⟨_, rfl, Or.inl ⟨by rw [HS.out, tlen_nil], rfl⟩⟩, Below.refl _ _⟩
theorem read_zero (s : ByteArray) (k : UInt8) (r : List UInt8) (w : World) (hs : S s = k :: r) : ReadOk 0 s w := by
  obtain ⟨hsz, -, -, -⟩ := ahead s r hs
  have hne : ¬ (s.toList = []) := by
    intro e; rw [toList_S, hs] at e; simp at e
  have q0 : (0 < (s.size : Int)) = True := eq_true (by omega)
  have q1 : (0 < s.size) = True := eq_true hsz
  have e0 : (s.toList == ([] : List UInt8)) = false := beq_eq_false_iff_ne.mpr hne
  have e1 : (s.toList != ([] : List UInt8)) = true := bne_iff_ne.mpr hne
  have e2 : s.toList.isEmpty = false := by simpa using hne
  clear hs hne hsz
  unfold ReadOk
  go_enter Tryz.func83, Tryz.ntmps83
  go_wp2
  go_ret
  exact ⟨⟨_, rfl, Or.inl ⟨rfl, rfl⟩⟩, Below.refl _ _⟩
theorem read_leaf (s : ByteArray) (k : UInt8) (r : List UInt8) (d : Nat) (w : World) (hb : s.size ≤ 1000000000) (hd : d < 100) (hs : S s = k :: r) (hk : k = 97 ∨ k = 116) : ReadOk (d + 1) s w := by
  have L : Calls Tryz.prog 99 #[.string s] w fun e w' => ReadPost w' w.heap.size (d + 1) s e ∧ Below w.heap.size w w' := by
    have hlen : s.size = r.length + 1 := by rw [size_S, hs]; rfl
    rcases hk with rfl | rfl
    · have ht : tlen (d + 1) (S s) = (match takeL r with | none => 0 | some p => 1 + r.length - p.2.length) := by rw [hs, tlen, if_pos rfl]; cases takeL r <;> rfl
      cases hr : takeL r with
      | none =>
        rw [hr] at ht
        refine (leaf_a_no s r w hs hr).mono ?_
        rintro e w1 ⟨rfl, hb1⟩
        exact ⟨⟨_, rfl, Or.inl ⟨ht, rfl⟩⟩, hb1⟩
      | some p =>
        obtain ⟨n, q⟩ := p
        have hq := takeL_len r n q hr
        rw [hr] at ht
        have ht : tlen (d + 1) (S s) = 1 + r.length - q.length := ht
        refine (leaf_a s r w n q (1 + r.length - q.length) hb hs hr (by omega)).mono ?_
        rintro e w1 ⟨rfl, hb1⟩
        exact ⟨⟨_, rfl, Or.inr ⟨by rw [ht]; omega, 97, r, hs, Or.inl ⟨rfl, n, q, hr, by rw [ht]⟩⟩⟩, hb1⟩
    · have ht : tlen (d + 1) (S s) = (if (takeTextL r 4000).2.2 = 0 then 1 + r.length - (takeTextL r 4000).2.1.length else 0) := by rw [hs, tlen, if_neg (by decide), if_pos rfl]
      by_cases h0 : (takeTextL r 4000).2.2 = 0
      · rw [if_pos h0] at ht
        have hq := takeTextL_len r 4000 h0
        refine (leaf_t s r w (takeTextL r 4000).1 (takeTextL r 4000).2.1 (1 + r.length - (takeTextL r 4000).2.1.length) hb hs (by rw [← h0]) (by omega)).mono ?_
        rintro e w1 ⟨rfl, hb1⟩
        exact ⟨⟨_, rfl, Or.inr ⟨by rw [ht]; omega, 116, r, hs, Or.inr (Or.inl ⟨rfl, _, _, by rw [← h0], by rw [ht]⟩)⟩⟩, hb1⟩
      · rw [if_neg h0] at ht
        refine (leaf_t_no s r w hs h0).mono ?_
        rintro e w1 ⟨rfl, hb1⟩
        exact ⟨⟨_, rfl, Or.inl ⟨ht, rfl⟩⟩, hb1⟩
  obtain ⟨hsz, hx0, -, -⟩ := ahead s r hs
  have hne : ¬ (s.toList = []) := by
    intro e; rw [toList_S, hs] at e; simp at e
  have q0 : (0 < (s.size : Int)) = True := eq_true (by omega)
  have q1 : (0 < s.size) = True := eq_true hsz
  have e0 : (s.toList == ([] : List UInt8)) = false := beq_eq_false_iff_ne.mpr hne
  have e1 : (s.toList != ([] : List UInt8)) = true := bne_iff_ne.mpr hne
  have e2 : s.toList.isEmpty = false := by simpa using hne
  unfold ReadOk
  obtain ⟨D, hD⟩ : ∃ D : Int, D = ((d + 1 : Nat) : Int) := ⟨_, rfl⟩
  rw [← hD]
  have d0 : (D == 0) = false := beq_eq_false_iff_ne.mpr (by omega)
  have d1 : ¬ (D = 0) := by omega
  have LH := Lib.hid L
  clear hD hs hne hsz L
  rcases hk with rfl | rfl
  · have hx : ∀ h : 0 < s.size, ((s[0]'h).toNat : Int) = 97 := hx0
    clear hx0
    go_enter Tryz.func83, Tryz.ntmps83
    go_wp2_with (go_at_call 99; refine LH.out.mono ?_; rintro e w1 ⟨⟨v, rfl, hp⟩, hb1⟩; have HP := Lib.hid hp; have HB := Lib.hid hb1; clear hp hb1)
    go_ret
    exact ⟨⟨_, rfl, HP.out⟩, HB.out⟩
  · have hx : ∀ h : 0 < s.size, ((s[0]'h).toNat : Int) = 116 := hx0
    clear hx0
    go_enter Tryz.func83, Tryz.ntmps83
    go_wp2_with (go_at_call 99; refine LH.out.mono ?_; rintro e w1 ⟨⟨v, rfl, hp⟩, hb1⟩; have HP := Lib.hid hp; have HB := Lib.hid hb1; clear hp hb1)
    go_ret
    exact ⟨⟨_, rfl, HP.out⟩, HB.out⟩
theorem byte_ne {k : UInt8} {n : Nat} (hn : n < 256) (h : k ≠ UInt8.ofNat n) : ((k.toNat : Int) == (n : Int)) = false :=
  beq_eq_false_iff_ne.mpr (fun e => h (by rw [← (by exact_mod_cast e : k.toNat = n)]; simp))
theorem read_none (s : ByteArray) (k : UInt8) (r : List UInt8) (d : Nat) (w : World) (hd : d < 100) (hs : S s = k :: r)
    (hk : k ≠ 97 ∧ k ≠ 116 ∧ k ≠ 104 ∧ k ≠ 117 ∧ k ≠ 112 ∧ k ≠ 115 ∧ k ≠ 98 ∧ k ≠ 103) : ReadOk (d + 1) s w := by
  have HT : Hid (tlen (d + 1) (S s) = 0) := Lib.hid (by
    rw [hs, tlen, if_neg hk.1, if_neg hk.2.1, if_neg (by simp [hk.2.2.1, hk.2.2.2.1]), if_neg (by simp [hk.2.2.2.2.1, hk.2.2.2.2.2.1, hk.2.2.2.2.2.2.1, hk.2.2.2.2.2.2.2])])
  obtain ⟨hsz, hx, -, -⟩ := ahead s r hs
  have hne : ¬ (s.toList = []) := by
    intro e; rw [toList_S, hs] at e; simp at e
  have q0 : (0 < (s.size : Int)) = True := eq_true (by omega)
  have q1 : (0 < s.size) = True := eq_true hsz
  have e0 : (s.toList == ([] : List UInt8)) = false := beq_eq_false_iff_ne.mpr hne
  have e1 : (s.toList != ([] : List UInt8)) = true := bne_iff_ne.mpr hne
  have e2 : s.toList.isEmpty = false := by simpa using hne
  have k1 : ((k.toNat : Int) == 97) = false := byte_ne (n := 97) (by decide) hk.1
  have k2 : ((k.toNat : Int) == 116) = false := byte_ne (n := 116) (by decide) hk.2.1
  have k3 : ((k.toNat : Int) == 104) = false := byte_ne (n := 104) (by decide) hk.2.2.1
  have k4 : ((k.toNat : Int) == 117) = false := byte_ne (n := 117) (by decide) hk.2.2.2.1
  have k5 : ((k.toNat : Int) == 112) = false := byte_ne (n := 112) (by decide) hk.2.2.2.2.1
  have k6 : ((k.toNat : Int) == 115) = false := byte_ne (n := 115) (by decide) hk.2.2.2.2.2.1
  have k7 : ((k.toNat : Int) == 98) = false := byte_ne (n := 98) (by decide) hk.2.2.2.2.2.2.1
  have k8 : ((k.toNat : Int) == 103) = false := byte_ne (n := 103) (by decide) hk.2.2.2.2.2.2.2
  generalize (k.toNat : Int) = x at hx k1 k2 k3 k4 k5 k6 k7 k8
  unfold ReadOk
  obtain ⟨D, hD⟩ : ∃ D : Int, D = ((d + 1 : Nat) : Int) := ⟨_, rfl⟩
  rw [← hD]
  have d0 : (D == 0) = false := beq_eq_false_iff_ne.mpr (by omega)
  have d1 : ¬ (D = 0) := by omega
  clear hD hs hne hsz hk
  go_enter Tryz.func83, Tryz.ntmps83
  go_wp2
  all_goals go_ret
  all_goals exact ⟨⟨_, rfl, Or.inl ⟨HT.out, rfl⟩⟩, Below.refl _ _⟩
theorem read_calls : ∀ (d : Nat), d ≤ 100 → ∀ (s : ByteArray) (w : World), s.size ≤ 1000000000 → ReadOk d s w := by
  intro d
  induction d with
  | zero =>
    intro _ s w hb
    cases hs : S s with
    | nil => exact read_empty s 0 w hs
    | cons k r => exact read_zero s k r w hs
  | succ d ih =>
    intro hd s w hb
    have ih' := ih (by omega)
    cases hs : S s with
    | nil => exact read_empty s (d + 1) w hs
    | cons k r =>
      by_cases h1 : k = 97 ∨ k = 116
      · exact read_leaf s k r d w hb (by omega) hs h1
      · by_cases h2 : k = 112
        · subst h2; exact read_112 s r d w hb (by omega) hs ih'
        by_cases h3 : k = 104
        · subst h3; exact read_104 s r d w hb (by omega) hs ih'
        by_cases h4 : k = 115
        · subst h4; exact read_115 s r d w hb (by omega) hs ih'
        by_cases h5 : k = 117
        · subst h5; exact read_117 s r d w hb (by omega) hs ih'
        by_cases h6 : k = 98
        · subst h6; exact read_98 s r d w hb (by omega) hs ih'
        by_cases h7 : k = 103
        · subst h7; exact read_103 s r d w hb (by omega) hs ih'
        exact read_none s k r d w (by omega) hs ⟨fun h => h1 (Or.inl h), fun h => h1 (Or.inr h), h3, h5, h2, h4, h6, h7⟩
end Go.Proofs.YtodiffgpefidoaaGreatDoor.P
namespace Go.Proofs.YtodiffgpefidoaaGreatDoor.P
open Go.RowKit Go.Proofs.YtodiffgpefidoaaGreatDoorW.PrintWords Go.Proofs.YtodiffgpefidoaaGreatDoorW.PrintLast Go.Proofs.YtodiffgpefidoaaGreatDoorW.PrintMore
attribute [local go_sem ↓] Go.wp_at_zero Go.wp_at_succ
set_option linter.unusedVariables false
set_option linter.unusedSimpArgs false
def WholePost (w : World) (base : Nat) (t : ByteArray) (e : Ending) : Prop :=
  ∃ v, e = .returned v ∧ (right (S t) = false ∧ v = .nilIface ∨ right (S t) = true ∧ NodeS w base 40 t t.size v)
theorem nq1 (t : TypeId) (v : Value) (W : World) : (Go.binOp .eql 65 (.iface t v) .nilIface).run Tryz.prog W = .ok (.bool false) W := by kernel_rfl
theorem nq2 (W : World) : (Go.binOp .eql 65 .nilIface .nilIface).run Tryz.prog W = .ok (.bool true) W := by kernel_rfl
theorem nodeS_below {w w' : World} {base d n : Nat} {s : ByteArray} {v : Value} (h : NodeS w base d s n v) (hb : Below w.heap.size w w') : NodeS w' base d s n v := by
  obtain ⟨k, r, hs, hh⟩ := h
  refine ⟨k, r, hs, ?_⟩
  rcases hh with h | h | ⟨m, A, c, h1, h2, h3⟩
  · exact Or.inl h
  · exact Or.inr (Or.inl h)
  · exact Or.inr (Or.inr ⟨m, A, c, h1, h2, Kd.R_below h3 hb⟩)
theorem right_big (t : ByteArray) (h : 4000 < t.size) : right (S t) = false := by
  rw [Bool.eq_false_iff]
  intro hr
  have := ((right_iff _).mp hr).2.1
  rw [size_S] at h
  omega
theorem right_zero (t : ByteArray) (h : tlen 40 (S t) = 0) : right (S t) = false := by
  rw [Bool.eq_false_iff]
  intro hr
  obtain ⟨h1, -, h3⟩ := (right_iff _).mp hr
  rw [h] at h3
  exact h1 (List.eq_nil_of_length_eq_zero h3.symm)
theorem right_of (t : ByteArray) (h0 : tlen 40 (S t) ≠ 0) (h : t.size ≤ 4000) (e : tlen 40 (S t) = t.size) : right (S t) = true := by
  rw [size_S] at h e
  exact (right_iff _).mpr ⟨fun e0 => h0 (by rw [e0, tlen_nil]), h, e⟩
theorem right_not (t : ByteArray) (e : ¬ tlen 40 (S t) = t.size) : right (S t) = false := by
  rw [Bool.eq_false_iff]
  intro hr
  exact e (by rw [size_S]; exact ((right_iff _).mp hr).2.2)
set_option maxRecDepth 100000 in
set_option maxHeartbeats 2000000 in
theorem whole_calls (t : ByteArray) (w : World) : Calls Tryz.prog 48 #[.string t] w fun e w' => WholePost w' w.heap.size t e ∧ Below w.heap.size w w' := by
  by_cases hbig : 4000 < t.size
  · have g1 : (4000 < (t.size : Int)) = True := eq_true (by omega)
    have HB := Lib.hid hbig
    clear hbig
    go_enter Tryz.func48, Tryz.ntmps48
    go_wp2
    go_ret
    exact ⟨⟨_, rfl, Or.inl ⟨right_big t HB.out, rfl⟩⟩, Below.refl _ _⟩
  · have g1 : (4000 < (t.size : Int)) = False := eq_false (by omega)
    have g2 : (t.size : Int) ≤ 4000 := by omega
    have RH := Lib.hid (read_calls 40 (by decide) t w (by omega))
    have HB := Lib.hid hbig
    have n1 := nq1
    have n2 := nq2
    clear hbig
    go_enter Tryz.func48, Tryz.ntmps48
    go_wp2_with (fail)
    refine RH.out.mono ?_
    rintro e w1 ⟨⟨x, rfl, hx1⟩, hb1⟩
    rcases hx1 with ⟨hz, rfl⟩ | ⟨hz, hnode⟩
    · have HZ := Lib.hid hz
      have HB1 := Lib.hid hb1
      clear hz hb1
      go_wp2
      go_ret
      exact ⟨⟨_, rfl, Or.inl ⟨right_zero t HZ.out, rfl⟩⟩, HB1.out⟩
    · have HN := Lib.hid hnode
      have hforms := nodeS_forms hnode
      have HZ := Lib.hid hz
      have HB1 := Lib.hid hb1
      have mN : ∀ (n : Nat) (a : ByteArray) (b : Int) (W : World), (method (n + 1) 126 (.agg #[.string a, .int .u64 b]) "letterlock/term.bytes").run Tryz.prog W = .ok (128, .agg #[.string a, .int .u64 b]) W := fun n a b W => by kernel_rfl
      have mA : ∀ (n : Nat) (a : ByteArray) (b : Int) (W : World), (nilAhead (n + 1) 126 (.agg #[.string a, .int .u64 b]) "letterlock/term.bytes").run Tryz.prog W = .ok (some false) W := fun n a b W => by kernel_rfl
      have mN2 : ∀ (n : Nat) (a : ByteArray) (b : ByteArray) (W : World), (method (n + 1) 128 (.agg #[.string a, .string b]) "letterlock/term.bytes").run Tryz.prog W = .ok (129, .agg #[.string a, .string b]) W := fun n a b W => by kernel_rfl
      have mA2 : ∀ (n : Nat) (a : ByteArray) (b : ByteArray) (W : World), (nilAhead (n + 1) 128 (.agg #[.string a, .string b]) "letterlock/term.bytes").run Tryz.prog W = .ok (some false) W := fun n a b W => by kernel_rfl
      have mN3 : ∀ (n : Nat) (a : ByteArray) (A : Option Addr) (m c : Nat) (W : World), (method (n + 1) 113 (.agg #[.string a, .slice A m c]) "letterlock/term.bytes").run Tryz.prog W = .ok (126, .agg #[.string a, .slice A m c]) W := fun n a A m c W => by kernel_rfl
      have mA3 : ∀ (n : Nat) (a : ByteArray) (A : Option Addr) (m c : Nat) (W : World), (nilAhead (n + 1) 113 (.agg #[.string a, .slice A m c]) "letterlock/term.bytes").run Tryz.prog W = .ok (some false) W := fun n a A m c W => by kernel_rfl
      obtain ⟨raw, hraw⟩ : ∃ raw : ByteArray, raw = t.extract 0 (tlen 40 (S t)) := ⟨_, rfl⟩
      rw [← hraw] at hforms
      have hrs : raw.size = tlen 40 (S t) := by
        rw [hraw, ByteArray.size_extract, size_S]
        have := tlen_le 40 (S t)
        omega
      have htest : (((raw.size : Int) == (t.size : Int)) = true ∧ Hid (tlen 40 (S t) = t.size)) ∨ (((raw.size : Int) == (t.size : Int)) = false ∧ Hid (¬ tlen 40 (S t) = t.size)) := by
        by_cases h : tlen 40 (S t) = t.size
        · exact Or.inl ⟨by rw [beq_iff_eq, hrs, h], Lib.hid h⟩
        · exact Or.inr ⟨beq_eq_false_iff_ne.mpr (by rw [hrs]; omega), Lib.hid h⟩
      clear hz hb1 hnode hraw hrs
      rcases hforms with ⟨q, rfl⟩ | ⟨q, rfl⟩ | ⟨A, m, c, rfl⟩
      all_goals (
        rcases htest with ⟨ht, HT⟩ | ⟨ht, HT⟩
        all_goals (
          go_wp2_with (fail)
          first
            | refine (bytes_number _ _ _).mono ?_
            | refine (bytes_words _ _ _).mono ?_
            | refine (bytes_parts _ _ _ _ _).mono ?_
          rintro e w4 ⟨rfl, hb4⟩
          have HB4 := Lib.hid hb4
          clear hb4
          go_wp2
          go_ret
          first
            | exact ⟨⟨_, rfl, Or.inr ⟨right_of t HZ.out (by have := HB.out; omega) HT.out, nodeS_below (by rw [← HT.out]; exact HN.out) HB4.out⟩⟩, below_then HB1.out HB1.out.size HB4.out⟩
            | exact ⟨⟨_, rfl, Or.inl ⟨right_not t HT.out, rfl⟩⟩, below_then HB1.out HB1.out.size HB4.out⟩))
theorem right_ne {t : ByteArray} (h : right (S t) = true) : 0 < t.size := by
  have h1 := ((right_iff _).mp h).1
  rw [size_S]
  exact List.length_pos_iff.mpr h1
def term_Kind.f (a0 : ByteArray) : Option Int := some ((kindL (S a0)).toNat : Int)
theorem term_Kind.calls (a0 : ByteArray) (r : Int) (w : World) (h : term_Kind.f a0 = some r) :
    Calls Tryz.prog 21 #[.string a0] w fun e w' => e = .returned (.int .u8 r) ∧ Below w.heap.size w w' := by
  have W := Lib.hid (whole_calls a0 w)
  have n1 := nq1
  have n2 := nq2
  have H := Lib.hid (Option.some.inj h)
  clear h
  go_enter Tryz.func21, Tryz.ntmps21
  go_wp2_with (fail)
  refine W.out.mono ?_
  rintro e w1 ⟨⟨x, rfl, hx1⟩, hb1⟩
  rcases hx1 with ⟨hz, rfl⟩ | ⟨hz, hnode⟩
  · have HZ := Lib.hid hz
    have HB1 := Lib.hid hb1
    clear hz hb1
    go_wp2
    go_ret
    refine ⟨?_, HB1.out⟩
    rw [← H.out, kindL, HZ.out]
    rfl
  · have hforms := nodeS_forms hnode
    have hsz := right_ne hz
    have q0 : (0 < (a0.size : Int)) = True := eq_true (by omega)
    have q1 : (0 < a0.size) = True := eq_true hsz
    obtain ⟨k, hk⟩ : ∃ k : UInt8, k = (S a0).getD 0 0 := ⟨_, rfl⟩
    have hx : ∀ h : 0 < a0.size, ((a0[0]'h).toNat : Int) = (k.toNat : Int) := fun h => by rw [list_byte a0 0 h, hk]
    have HK := Lib.hid hk
    have HZ := Lib.hid hz
    have HB1 := Lib.hid hb1
    clear hz hb1 hk hnode hsz
    rcases hforms with ⟨q, rfl⟩ | ⟨q, rfl⟩ | ⟨A, m, c, rfl⟩
    all_goals (
      go_wp2
      go_ret
      refine ⟨?_, HB1.out⟩
      rw [← H.out, kindL, HZ.out, if_pos rfl, HK.out]
      rfl)
end Go.Proofs.YtodiffgpefidoaaGreatDoor.P
namespace Go.Proofs.YtodiffgpefidoaaGreatDoor.P
open Go.RowKit Go.Proofs.YtodiffgpefidoaaGreatDoorW.PrintWords Go.Proofs.YtodiffgpefidoaaGreatDoorW.PrintLast Go.Proofs.YtodiffgpefidoaaGreatDoorW.PrintMore
attribute [local go_sem ↓] Go.wp_at_zero Go.wp_at_succ
set_option linter.unusedVariables false
set_option linter.unusedSimpArgs false
def partsE (l : List UInt8) : List (List UInt8) × Int := if right l then (partsL l, 0) else ([], 1)
theorem pts_parts {l r : List UInt8} {k : UInt8} {m : Nat} (hr : right l = true) (hl : l = k :: r) (hk : manyK k m) : pts 39 r m = partsL l := by
  obtain ⟨-, -, ht⟩ := (right_iff _).mp hr
  subst hl
  rw [List.length_cons] at ht
  rcases hk with ⟨hk, rfl⟩ | ⟨hk, rfl⟩
  · rw [tlen_one hk] at ht
    rw [partsL, if_pos (by simpa using hk)]
    have hne : tlen 39 r ≠ 0 := by intro e; rw [if_pos e] at ht; omega
    rw [if_neg hne] at ht
    simp only [pts, offs, List.drop_zero, List.nil_append, List.tail_cons]
    rw [List.take_of_length_le (by omega)]
  · rw [tlen_two hk] at ht
    rw [partsL, if_neg (by rcases hk with rfl | rfl | rfl | rfl <;> simp), if_pos (by simpa using hk)]
    split at ht
    · omega
    · have hne : tlen 39 r ≠ 0 := by intro e; rw [if_pos e] at ht; omega
      rw [if_neg hne] at ht
      have hne2 : tlen 39 (r.drop (tlen 39 r)) ≠ 0 := by intro e; rw [if_pos e] at ht; omega
      rw [if_neg hne2] at ht
      have e40 : tlen 40 r = tlen 39 r := tlen_more 39 r hne
      simp only [pts, offs, List.drop_zero, List.nil_append, List.tail_cons, Nat.zero_add]
      rw [e40, List.take_of_length_le (i := tlen 39 (r.drop (tlen 39 r))) (by rw [List.length_drop]; omega)]
      rfl
theorem partsL_leaf {l r : List UInt8} {k : UInt8} (hl : l = k :: r) (hk : k = 97 ∨ k = 116) : partsL l = [] := by
  subst hl
  rw [partsL]
  rcases hk with rfl | rfl
  · rw [if_neg (by simp), if_neg (by simp)]
  · rw [if_neg (by simp), if_neg (by simp)]
theorem ta_parts_number (v : Value) (W : World) : (Instr.typeAssert (.iface 126 v) 65 113 true).run Tryz.prog W = .ok (.tuple #[.agg #[.string ⟨#[]⟩, .slice none 0 0], .bool false]) W := by kernel_rfl
theorem ta_parts_words (v : Value) (W : World) : (Instr.typeAssert (.iface 128 v) 65 113 true).run Tryz.prog W = .ok (.tuple #[.agg #[.string ⟨#[]⟩, .slice none 0 0], .bool false]) W := by kernel_rfl
theorem ta_parts_parts (v : Value) (W : World) : (Instr.typeAssert (.iface 113 v) 65 113 true).run Tryz.prog W = .ok (.tuple #[v, .bool true]) W := by kernel_rfl
def term_Parts.f (a0 : ByteArray) : Option (List ByteArray × Int) := some ((partsE (S a0)).1.map B, (partsE (S a0)).2)
theorem term_Parts.calls (a0 : ByteArray) (r1 : List ByteArray) (r2 : Int) (w : World) (h : term_Parts.f a0 = some (r1, r2)) :
    Calls Tryz.prog 87 #[.string a0] w fun e w' => ∃ v0_ : Value, e = .returned (.tuple #[v0_, .int .i64 r2]) ∧ Kd.R Kd.string 9 w' w.heap.size (fun _ => True) v0_ r1 ∧ Below w.heap.size w w' := by
  have W := Lib.hid (whole_calls a0 w)
  have n1 := nq1
  have tn := ta_parts_number
  have tw := ta_parts_words
  have tp := ta_parts_parts
  have n2 := nq2
  have H1 := Lib.hid (congrArg Prod.fst (Option.some.inj h))
  have H2 := Lib.hid (congrArg Prod.snd (Option.some.inj h))
  have hu := Tryz.underlying113
  clear h
  go_enter Tryz.func87, Tryz.ntmps87
  go_wp2_with (fail)
  refine W.out.mono ?_
  rintro e w1 ⟨⟨x, rfl, hx1⟩, hb1⟩
  have HB1 := Lib.hid hb1
  rcases hx1 with ⟨hz, rfl⟩ | ⟨hz, hnode⟩
  · have HZ := Lib.hid hz
    clear hz hb1
    go_wp2
    go_ret2
    refine ⟨.slice none 0 0, ?_, ?_, by first | exact HB1.out | exact below_alloc HB1.out _⟩
    · rw [← H2.out, partsE, HZ.out]
      rfl
    · rw [← H1.out, partsE, HZ.out]
      exact Kd.R_nil _ _ _ _ _
  · have HZ := Lib.hid hz
    clear hz hb1
    obtain ⟨k, r, hs, ⟨hk, n, q, hq, rfl⟩ | ⟨hk, t, q, hq, rfl⟩ | ⟨m, A, c, hm, rfl, hR⟩⟩ := hnode
    · have HN : Hid (partsE (S a0) = ([], 0)) := Lib.hid (by rw [partsE, HZ.out, if_pos rfl, partsL_leaf hs (Or.inl hk)])
      clear hk hq hs
      go_wp2
      go_ret2
      refine ⟨.slice none 0 0, ?_, ?_, by first | exact HB1.out | exact below_alloc HB1.out _⟩
      · rw [← H2.out, HN.out]
        rfl
      · rw [← H1.out, HN.out]
        exact Kd.R_nil _ _ _ _ _
    · have HN : Hid (partsE (S a0) = ([], 0)) := Lib.hid (by rw [partsE, HZ.out, if_pos rfl, partsL_leaf hs (Or.inr hk)])
      clear hk hq hs
      go_wp2
      go_ret2
      refine ⟨.slice none 0 0, ?_, ?_, by first | exact HB1.out | exact below_alloc HB1.out _⟩
      · rw [← H2.out, HN.out]
        rfl
      · rw [← H1.out, HN.out]
        exact Kd.R_nil _ _ _ _ _
    · have HN : Hid (partsE (S a0) = (pts 39 r m, 0)) := Lib.hid (by rw [partsE, HZ.out, if_pos rfl, pts_parts HZ.out hs hm])
      have HR := Lib.hid hR
      clear hm hs hR
      go_wp2
      go_ret2
      refine ⟨.slice A m c, ?_, ?_, by first | exact HB1.out | exact below_alloc HB1.out _⟩
      · rw [← H2.out, HN.out]
        rfl
      · rw [← H1.out, HN.out]
        exact Kd.R_alloc HR.out _
end Go.Proofs.YtodiffgpefidoaaGreatDoor.P
namespace Go.Proofs.YtodiffgpefidoaaGreatDoor.P
open Go.RowKit Go.Proofs.YtodiffgpefidoaaGreatDoorW.PrintWords Go.Proofs.YtodiffgpefidoaaGreatDoorW.PrintLast Go.Proofs.YtodiffgpefidoaaGreatDoorW.PrintMore
attribute [local go_sem ↓] Go.wp_at_zero Go.wp_at_succ
set_option linter.unusedVariables false
set_option linter.unusedSimpArgs false
theorem S_app (a b : ByteArray) : S (a ++ b) = S a ++ S b := by unfold S; rw [ByteArray.data_append, Array.toList_append]
theorem right_le {t : ByteArray} (h : right (S t) = true) : t.size ≤ 4000 := by rw [size_S]; exact ((right_iff _).mp h).2.1
theorem nodeS_any {w : World} {base d n : Nat} {s : ByteArray} {v : Value} (h : NodeS w base d s n v) : ∃ t u, v = .iface t u := by
  rcases nodeS_forms h with ⟨q, rfl⟩ | ⟨q, rfl⟩ | ⟨A, m, c, rfl⟩
  · exact ⟨_, _, rfl⟩
  · exact ⟨_, _, rfl⟩
  · exact ⟨_, _, rfl⟩
def verifyL (p a s : List UInt8) : Int := if right p && right a && right s then (if p.getD 0 0 = 117 ∧ s = 103 :: (p.tail ++ a) then 0 else 7) else 1
def term_Verify.f (a0 a1 a2 : ByteArray) : Option Int := some (verifyL (S a0) (S a1) (S a2))
theorem term_Verify.calls (a0 : ByteArray) (a1 : ByteArray) (a2 : ByteArray) (r : Int) (w : World) (h : term_Verify.f a0 a1 a2 = some r) :
    Calls Tryz.prog 42 #[.string a0, .string a1, .string a2] w fun e w' => e = .returned (.int .i64 r) ∧ Below w.heap.size w w' := by
  have W0 := Lib.hid (whole_calls a0)
  have W1 := Lib.hid (whole_calls a1)
  have W2 := Lib.hid (whole_calls a2)
  have n1 := nq1
  have n2 := nq2
  have H := Lib.hid (Option.some.inj h)
  clear h
  go_enter Tryz.func42, Tryz.ntmps42
  go_wp2_with (fail)
  refine (W0.out _).mono ?_
  rintro e w1 ⟨⟨x, rfl, hx1⟩, hb1⟩
  have HB1 := Lib.hid hb1
  rcases hx1 with ⟨hz, rfl⟩ | ⟨hz, hnode⟩
  · have HZ := Lib.hid hz
    clear hz hb1
    go_wp2
    go_ret
    refine ⟨?_, HB1.out⟩
    rw [← H.out, verifyL, HZ.out]
    rfl
  have HZ := Lib.hid hz
  have hforms := nodeS_any hnode
  clear hb1 hnode
  obtain ⟨t, v, rfl⟩ := hforms
  go_wp2_with (fail)
  refine (W1.out _).mono ?_
  rintro e w2 ⟨⟨x, rfl, hx1⟩, hb2⟩
  have HB2 := Lib.hid hb2
  rcases hx1 with ⟨hz1, rfl⟩ | ⟨hz1, hnode⟩
  · have HZ2 := Lib.hid hz1
    clear hz1 hz hb2
    go_wp2
    go_ret
    refine ⟨?_, below_then HB1.out HB1.out.size HB2.out⟩
    rw [← H.out, verifyL, HZ2.out, Bool.and_false]
    rfl
  have HZ2 := Lib.hid hz1
  have hforms := nodeS_any hnode
  clear hz1 hb2 hnode
  obtain ⟨t2, v2, rfl⟩ := hforms
  go_wp2_with (fail)
  refine (W2.out _).mono ?_
  rintro e w3 ⟨⟨x, rfl, hx1⟩, hb3⟩
  have HB3 := Lib.hid hb3
  rcases hx1 with ⟨hz1, rfl⟩ | ⟨hz1, hnode⟩
  · have HZ3 := Lib.hid hz1
    clear hz1 hz hb3
    go_wp2
    go_ret
    refine ⟨?_, below_then HB1.out HB1.out.size (below_then HB2.out HB2.out.size HB3.out)⟩
    rw [← H.out, verifyL, HZ3.out, Bool.and_false]
    rfl
  have HZ3 := Lib.hid hz1
  have hforms := nodeS_any hnode
  have hsz := right_ne hz
  clear hz1 hz hb3 hnode
  obtain ⟨t3, v3, rfl⟩ := hforms
  have q0 : (0 < (a0.size : Int)) = True := eq_true (by omega)
  have q1 : (0 < a0.size) = True := eq_true hsz
  have q2 : (1 ≤ a0.size) = True := eq_true hsz
  have q3 : (1 ≤ (a0.size : Int)) = True := eq_true (by omega)
  obtain ⟨z, r0, hz⟩ : ∃ z r0, S a0 = z :: r0 := by
    cases h : S a0 with
    | nil => rw [size_S, h] at hsz; exact absurd hsz (by simp)
    | cons z r0 => exact ⟨z, r0, rfl⟩
  obtain ⟨-, hx0, hext, -⟩ := ahead a0 r0 hz
  have hl0 := right_le HZ.out
  have hl1 := right_le HZ2.out
  have hlr : (B r0).size ≤ 4000 := by rw [size_B]; rw [size_S, hz, List.length_cons] at hl0; omega
  have l1 : (9223372036854775807 < 1 + (B r0).size) = False := eq_false (by omega)
  have l2 : (9223372036854775807 < 1 + (B r0).size + a1.size) = False := eq_false (by omega)
  have hV : Hid (verifyL (S a0) (S a1) (S a2) = if z = 117 ∧ S a2 = 103 :: (r0 ++ S a1) then 0 else 7) := Lib.hid (by rw [verifyL, HZ.out, HZ2.out, HZ3.out, hz]; rfl)
  by_cases he : z = 117
  · have hx : ∀ h : 0 < a0.size, ((a0[0]'h).toNat : Int) = 117 := by rw [he] at hx0; exact hx0
    have HE := Lib.hid he
    clear hx0 hz hsz he
    by_cases ht : S a2 = 103 :: (r0 ++ S a1)
    · have h0 : (a2.toList == ((⟨#[103]⟩ : ByteArray) ++ B r0 ++ a1).toList) = true := by rw [toList_S, toList_S, S_app, S_app, S_B, beq_iff_eq]; exact ht
      have HT := Lib.hid ht
      clear ht
      go_wp2
      go_ret
      refine ⟨?_, below_then HB1.out HB1.out.size (below_then HB2.out HB2.out.size HB3.out)⟩
      rw [← H.out, hV.out, if_pos ⟨HE.out, HT.out⟩]
      rfl
    · have h0 : (a2.toList == ((⟨#[103]⟩ : ByteArray) ++ B r0 ++ a1).toList) = false := by rw [toList_S, toList_S, S_app, S_app, S_B]; exact beq_eq_false_iff_ne.mpr ht
      have HT := Lib.hid ht
      clear ht
      go_wp2
      go_ret
      refine ⟨?_, below_then HB1.out HB1.out.size (below_then HB2.out HB2.out.size HB3.out)⟩
      rw [← H.out, hV.out, if_neg (fun h => HT.out h.2)]
      rfl
  · have hne : ((z.toNat : Int) == 117) = false := byte_ne (n := 117) (by decide) he
    have HE := Lib.hid he
    have hne2 := beq_eq_false_iff_ne.mp hne
    generalize (z.toNat : Int) = y at hx0 hne hne2
    clear hz hsz he
    go_wp2
    go_ret
    refine ⟨?_, below_then HB1.out HB1.out.size (below_then HB2.out HB2.out.size HB3.out)⟩
    rw [← H.out, hV.out, if_neg (fun h => HE.out h.1)]
    rfl
end Go.Proofs.YtodiffgpefidoaaGreatDoor.P
namespace Go.Proofs.YtodiffgpefidoaaGreatDoor.P
open Go.RowKit Go.Proofs.YtodiffgpefidoaaGreatDoorW.PrintWords Go.Proofs.YtodiffgpefidoaaGreatDoorW.PrintLast Go.Proofs.YtodiffgpefidoaaGreatDoorW.PrintMore
attribute [local go_sem ↓] Go.wp_at_zero Go.wp_at_succ
set_option linter.unusedVariables false
set_option linter.unusedSimpArgs false
def ofL (k : List UInt8) (ls : List (List UInt8)) : List UInt8 × Int := if ls.all right then (if right (k ++ ls.flatten) then (k ++ ls.flatten, 0) else ([], 10)) else ([], 1)
def term_of.f (a0 : ByteArray) (l1 : List ByteArray) : Option (ByteArray × Int) := if l1.length ≤ 10 ∧ a0.size ≤ 1000 then some (B (ofL (S a0) (l1.map S)).1, (ofL (S a0) (l1.map S)).2) else none
set_option maxHeartbeats 2000000 in
theorem term_of.calls (a0 : ByteArray) (A1 : Option Addr) (c1 : Nat) (l1 : List ByteArray) (r1 : ByteArray) (r2 : Int) (w : World) (hr1 : Kd.C Kd.string w A1 l1.length l1) (hc1 : l1.length ≤ c1) (h : term_of.f a0 l1 = some (r1, r2)) :
    Calls Tryz.prog 58 #[.string a0, .slice A1 l1.length c1] w fun e w' => e = .returned (.tuple #[.string r1, .int .i64 r2]) ∧ Below w.heap.size w w' := by
  have hb : l1.length ≤ 10 ∧ a0.size ≤ 1000 := by
    by_cases hb : l1.length ≤ 10 ∧ a0.size ≤ 1000
    · exact hb
    · rw [term_of.f, if_neg hb] at h; exact absurd h (by simp)
  rw [term_of.f, if_pos hb] at h
  have h0 := Option.some.inj h
  have H1 := Lib.hid (congrArg Prod.fst h0)
  have H2 := Lib.hid (congrArg Prod.snd h0)
  have HC := Lib.hid hr1
  have HL := Lib.hid hb
  have hl10 := hb.1
  clear h h0 hr1 hb
  have WH := Lib.hid whole_calls
  have n1 := nq1
  have n2 := nq2
  go_enter Tryz.func58, Tryz.ntmps58
  go_wp2
  go_loopw [6, 8, 12] (fun tv pv i wr => ∃ (j : Nat) (t : ByteArray), j ≤ l1.length ∧ tv = .string t ∧ i = .int .i64 j ∧ t.size ≤ 1000 + 4000 * j ∧ Hid (S t = S a0 ++ ((l1.take j).map S).flatten) ∧ Hid (((l1.take j).map S).all right = true) ∧ Hid (Below w.heap.size w wr)) (fun _ _ i _ => l1.length - (intOf i).toNat)
  case atStart => exact ⟨0, a0, by omega, rfl, rfl, by have := HL.out.2; omega, Lib.hid (by simp), Lib.hid (by simp), Lib.hid (Below.refl _ _)⟩
  case round =>
    obtain ⟨j, t, hj, rfl, rfl, hts, HT, HA, HBW⟩ := hrel
    by_cases hlt : j < l1.length
    · have hji : (j : Int) < (l1.length : Int) := by omega
      have hj0 : (0 : Int) ≤ (j : Int) := by omega
      obtain ⟨ad, rfl, hcell⟩ := Kd.at_string (Kd.C_below HC.out HBW.out) (j : Int) hj0 hji
      obtain ⟨p, hp⟩ : ∃ p, p = rdOf ByteArray.empty l1 (j : Int) := ⟨_, rfl⟩
      rw [← hp, Int.toNat_natCast] at hcell
      have hpe : p = l1[j] := by rw [hp]; simp [rdOf, List.getD_eq_getElem?_getD, hlt]
      have htk : l1.take (j + 1) = l1.take j ++ [p] := by rw [hpe, List.take_succ_eq_append_getElem hlt]
      have HP := Lib.hid hpe
      have HK := Lib.hid htk
      clear hp hpe htk
      go_wp2_with (fail)
      refine (WH.out _ _).mono ?_
      rintro e w1 ⟨⟨x, rfl, hx1⟩, hb1⟩
      have HB1 := Lib.hid hb1
      rcases hx1 with ⟨hz, rfl⟩ | ⟨hz, hnode⟩
      · have HZ := Lib.hid hz
        clear hz hb1
        go_wp2
        go_ret2
        refine ⟨?_, below_then HBW.out HBW.out.size HB1.out⟩
        rw [← H1.out, ← H2.out, ofL, if_neg (by
          rw [Bool.not_eq_true, Bool.eq_false_iff]
          intro ha
          rw [List.all_eq_true] at ha
          have := ha (S p) (List.mem_map_of_mem (by rw [HP.out]; exact List.getElem_mem _))
          rw [HZ.out] at this
          exact absurd this (by decide))]
        rfl
      · have HZ := Lib.hid hz
        have hps := right_le hz
        have hov : (9223372036854775807 < t.size + p.size) = False := eq_false (by omega)
        obtain ⟨ty, v, rfl⟩ := nodeS_any hnode
        clear hz hb1 hnode
        go_wp2
        go_roundw
        case measure => simp [intOf]; omega
        case rel => exact ⟨j + 1, t ++ p, by omega, rfl, by go_num, by rw [ByteArray.size_append]; omega, Lib.hid (by rw [S_app, HT.out, HK.out, List.map_append, List.flatten_append, List.append_assoc]; simp), Lib.hid (by rw [HK.out, List.map_append, List.all_append, HA.out]; simp [HZ.out]), Lib.hid (below_then HBW.out HBW.out.size HB1.out)⟩
    · obtain rfl : j = l1.length := by omega
      rw [List.take_length] at HT HA
      have HE : Hid (ofL (S a0) (l1.map S) = if right (S t) then (S t, 0) else ([], 10)) := Lib.hid (by rw [ofL, if_pos HA.out, ← HT.out])
      go_wp2_with (fail)
      refine (WH.out _ _).mono ?_
      rintro e w1 ⟨⟨x, rfl, hx1⟩, hb1⟩
      have HB1 := Lib.hid hb1
      rcases hx1 with ⟨hz, rfl⟩ | ⟨hz, hnode⟩
      · have HZ := Lib.hid hz
        clear hz hb1
        go_wp2
        go_ret2
        refine ⟨?_, below_then HBW.out HBW.out.size HB1.out⟩
        rw [← H1.out, ← H2.out, HE.out, HZ.out]
        rfl
      · have HZ := Lib.hid hz
        obtain ⟨ty, v, rfl⟩ := nodeS_any hnode
        clear hz hb1 hnode
        go_wp2
        go_ret2
        refine ⟨?_, below_then HBW.out HBW.out.size HB1.out⟩
        rw [← H1.out, ← H2.out, HE.out, HZ.out]
        rfl
end Go.Proofs.YtodiffgpefidoaaGreatDoor.P

