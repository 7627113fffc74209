/- Slimmed by wip/slim.py. -/
import Derived.Test.YtodiffgpefidoaaGreatDoorSpec
import Derived.Test.YtodiffgpefidoaaGreatDoorGWire
import Derived.Test.YtodiffgpefidoaaGreatDoorGRef2
import Derived.Test.YtodiffgpefidoaaGreatDoorXTake
import Derived.Laws.BitsAllLaws
namespace Go.Proofs.YtodiffgpefidoaaGreatDoor.P
open Go.RowKit Go.Proofs.YtodiffgpefidoaaGreatDoorW.PrintWords Go.Proofs.YtodiffgpefidoaaGreatDoorW.PrintLast Go.Proofs.YtodiffgpefidoaaGreatDoorW.PrintMore
set_option linter.unusedVariables false
set_option linter.unusedSimpArgs false
theorem Ev.eq {α : Type} {g : Nat → Option α} {r q : α} (h : Ev g r) (e : r = q) : Ev g q := e ▸ h
theorem w64 (n : Int) (h0 : -9223372036854775808 ≤ n) (h1 : n ≤ 9223372036854775807) : wrap64 n = n := by unfold wrap64; omega
theorem wu64 (n : Int) (h0 : 0 ≤ n) (h1 : n ≤ 18446744073709551615) : IntKind.u64.wrap n = n := by rw [IntKind.wrap_u64]; omega
theorem mx0 (a : Int) : mx a 0 = if 0 ≤ a then a else 0 := by unfold mx; split <;> split <;> omega
theorem bits_Len64_of (n : Nat) (h : n < 18446744073709551616) : bits_Len64.f (n : Int) = some ((Lib.bitLen n : Nat) : Int) := by
  unfold bits_Len64.f
  rw [if_pos ⟨by omega, by omega⟩, Int.toNat_natCast]
theorem bitLen_one (n : Nat) (h0 : 0 < n) (h : n < 256) : 1 ≤ Lib.bitLen n ∧ Lib.bitLen n ≤ 8 := by
  have h1 := Lib.bitLen_le8 ⟨n, h⟩
  have h2 := Lib.bitLen_half n (by omega) (by omega)
  exact ⟨by omega, h1⟩
theorem size_of : ∀ n : Nat, n < 18446744073709551616 → (Lib.bitLen n + 7) / 8 = (digs n).length := by
  intro n
  induction n using Nat.strongRecOn with
  | _ n ih =>
    intro h
    rcases Nat.eq_zero_or_pos n with rfl | hp
    · rw [digs_zero]; decide
    · rw [digs_pos n hp, List.length_append, List.length_singleton]
      by_cases h2 : 256 ≤ n
      · have h3 := ih (n / 256) (by omega) (by omega)
        rw [Lib.bitLen_shift8 n h2 h]
        omega
      · have := bitLen_one n hp (by omega)
        rw [show n / 256 = 0 from by omega, digs_zero]
        simp
        omega
theorem strOf_B (l : List Int) : strOfNums l = B (l.map fun n => UInt8.ofNat n.toNat) := rfl
def digsI : Nat → Nat → List Int
  | 0, _ => []
  | j + 1, n => digsI j (n / 256) ++ [((n % 256 : Nat) : Int)]
theorem digsI_digs : ∀ (j n : Nat), (digs n).length = j → (digsI j n).map (fun n => UInt8.ofNat n.toNat) = digs n := by
  intro j
  induction j with
  | zero => intro n h; rw [List.eq_nil_of_length_eq_zero h]; rfl
  | succ j ih =>
    intro n h
    have hp : 0 < n := by
      rcases Nat.eq_zero_or_pos n with rfl | hp
      · rw [digs_zero] at h; simp at h
      · exact hp
    rw [digs_pos n hp, List.length_append] at h
    rw [digsI, List.map_append, ih (n / 256) (by simpa using h), digs_pos n hp]
    simp only [List.map_cons, List.map_nil, Int.toNat_natCast]
theorem put_loop : ∀ (j k n : Nat) (xs : List Int), j < k → j + 1 ≤ xs.length → xs.length ≤ 1000 →
    wire_Put.l0 k (n : Int) xs (j : Int) = some (strOfNums (xs.take 1 ++ digsI j n ++ xs.drop (j + 1))) := by
  intro j
  induction j with
  | zero =>
    intro k n xs hk hl hb
    obtain ⟨k, rfl⟩ : ∃ m, k = m + 1 := ⟨k - 1, by omega⟩
    simp only [wire_Put.l0]
    rw [if_neg (by omega), digsI, List.append_nil, List.take_append_drop]
  | succ j ih =>
    intro k n xs hk hl hb
    obtain ⟨k, rfl⟩ : ∃ m, k = m + 1 := ⟨k - 1, by omega⟩
    simp only [wire_Put.l0]
    rw [if_pos (by omega), if_pos (by omega), if_pos (by omega), w64 _ (by omega) (by omega)]
    rw [show ((j + 1 : Nat) : Int) - 1 = (j : Int) from by omega, show (n : Int) / 256 = ((n / 256 : Nat) : Int) from by omega, show (n : Int) % 256 = ((n % 256 : Nat) : Int) from by omega, Int.toNat_natCast]
    rw [ih k (n / 256) _ (by omega) (by rw [List.length_set]; omega) (by rw [List.length_set]; omega)]
    congr 2
    rw [digsI, List.set_eq_take_append_cons_drop, if_pos (by omega)]
    have ht : (List.take (j + 1) xs).length = j + 1 := by rw [List.length_take]; omega
    rw [List.take_append_of_le_length (by rw [ht]; omega), List.take_take, Nat.min_eq_left (by omega), List.drop_append_of_le_length (by rw [ht]; omega), List.drop_of_length_le (by rw [ht]; omega)]
    simp
theorem put_shape (d : List UInt8) (n k : Nat) (hd : (digsI d.length n).map (fun n => UInt8.ofNat n.toNat) = d) (h8 : d.length ≤ 8) (hk : d.length + 1 ≤ k) :
    wire_Put.l0 k (n : Int) ((List.replicate (1 + d.length) (0 : Int)).set (0 : Int).toNat ((d.length : Int) % 256)) (d.length : Int) = some (B (UInt8.ofNat d.length :: d)) := by
  rw [put_loop _ k n _ (by omega) (by rw [List.length_set, List.length_replicate]; omega) (by rw [List.length_set, List.length_replicate]; omega)]
  rw [strOf_B, List.map_append, List.map_append, hd]
  rw [List.drop_of_length_le (by rw [List.length_set, List.length_replicate]; omega)]
  rw [show ((d.length : Int) % 256) = (((d.length) : Nat) : Int) from by omega, Nat.add_comm 1, List.replicate_succ]
  simp only [Int.toNat_zero, List.set_cons_zero, List.take_succ_cons, List.take_zero, List.map_cons, Int.toNat_natCast, List.map_nil, List.append_nil, List.cons_append, List.nil_append]
theorem wire_Put.ev (n : Nat) (h : n < 18446744073709551616) : Ev (fun k => wire_Put.f k (n : Int)) (B (encN n)) := by
  have hs := size_of n h
  have h8 := digs_len8 n h
  have hd := digsI_digs _ n rfl
  unfold encN
  generalize digs n = d at hs h8 hd
  have hz : wrap64 (Int.tdiv (wrap64 (((Lib.bitLen n : Nat) : Int) + 7)) 8) = ((d.length : Nat) : Int) := by
    have e1 : wrap64 (((Lib.bitLen n : Nat) : Int) + 7) = ((Lib.bitLen n : Nat) : Int) + 7 := w64 _ (by omega) (by omega)
    have e2 : Int.tdiv (((Lib.bitLen n : Nat) : Int) + 7) 8 = ((d.length : Nat) : Int) := by
      rw [Int.tdiv_eq_ediv_of_nonneg (by omega)]
      omega
    rw [e1, e2, w64 _ (by omega) (by omega)]
  refine ⟨d.length + 1, fun k hk => ?_⟩
  show wire_Put.f k (n : Int) = _
  unfold wire_Put.f
  rw [bits_Len64_of n h, Option.bind_some, hz, w64 _ (by omega) (by omega), if_pos (by omega), if_pos (by omega), show (1 + ((d.length : Nat) : Int)).toNat = 1 + d.length from by omega]
  rw [Option.bind_some, if_pos (by rw [List.length_replicate]; omega)]
  exact put_shape d n k hd h8 hk
theorem ref2_put_loop : ∀ (m k n : Nat) (acc : List UInt8) (xs : List Int), (digs n).length = m → m < k → n < 18446744073709551616 → strOfNums xs = B acc → m + acc.length ≤ 200 →
    letterlockref2_Put.l0 k (n : Int) xs = some (B (UInt8.ofNat ((digs n).length + acc.length) :: (digs n ++ acc))) := by
  intro m
  induction m with
  | zero =>
    intro k n acc xs hm hk hn hx hb
    obtain ⟨k, rfl⟩ : ∃ m, k = m + 1 := ⟨k - 1, by omega⟩
    have h0 : n = 0 := by
      rcases Nat.eq_zero_or_pos n with h | h
      · exact h
      · exact absurd (List.eq_nil_of_length_eq_zero hm) (digs_ne n h)
    subst h0
    have hxl : xs.length = acc.length := by
      have := congrArg ByteArray.size hx
      rwa [strOfNums_size, size_B] at this
    simp only [letterlockref2_Put.l0]
    rw [if_neg (by omega)]
    simp only [Option.bind_some]
    rw [hx, if_pos (by rw [strOfNums_size, size_B, List.length_singleton]; omega), strOf_B, append_B, digs_zero]
    rw [hxl, show (((acc.length : Nat) : Int) % 256) = ((acc.length : Nat) : Int) from by omega]
    simp only [List.map_cons, List.map_nil, Int.toNat_natCast, List.nil_append, List.cons_append, List.length_nil, Nat.zero_add]
  | succ m ih =>
    intro k n acc xs hm hk hn hx hb
    obtain ⟨k, rfl⟩ : ∃ m, k = m + 1 := ⟨k - 1, by omega⟩
    have hp : 0 < n := by
      rcases Nat.eq_zero_or_pos n with rfl | hp
      · rw [digs_zero] at hm; simp at hm
      · exact hp
    have hd := digs_pos n hp
    have hm' : (digs (n / 256)).length = m := by rw [hd, List.length_append] at hm; simpa using hm
    have hxl : xs.length = acc.length := by
      have := congrArg ByteArray.size hx
      rwa [strOfNums_size, size_B] at this
    simp only [letterlockref2_Put.l0]
    rw [if_pos (by omega)]
    simp only [Option.bind_some]
    rw [if_pos (by simp; omega), Int.tdiv_eq_ediv_of_nonneg (by omega), Int.tmod_eq_emod_of_nonneg (by omega), show (n : Int) / 256 = ((n / 256 : Nat) : Int) from by omega, wu64 _ (by omega) (by omega)]
    have hx2 : strOfNums ([(n : Int) % 256 % 256] ++ xs) = B (UInt8.ofNat (n % 256) :: acc) := by
      have h1 : (xs.map fun n => UInt8.ofNat n.toNat) = acc := B_inj ((strOf_B xs).symm.trans hx)
      rw [strOf_B, List.map_append, h1]
      have e : ((n : Int) % 256 % 256).toNat = n % 256 := by omega
      simp only [List.map_cons, List.map_nil, e, List.cons_append, List.nil_append]
    rw [ih k (n / 256) _ _ hm' (by omega) (by omega) hx2 (by simp; omega)]
    rw [hd]
    simp only [List.length_append, List.length_cons, List.length_nil, List.append_assoc, List.cons_append, List.nil_append]
    congr 4
    omega
theorem letterlockref2_Put.ev (n : Nat) (h : n < 18446744073709551616) : Ev (fun k => letterlockref2_Put.f k (n : Int)) (B (encN n)) := by
  have h8 := digs_len8 n h
  refine ⟨(digs n).length + 1, fun k hk => ?_⟩
  show letterlockref2_Put.f k (n : Int) = _
  unfold letterlockref2_Put.f
  rw [ref2_put_loop (digs n).length k n [] [] rfl (by omega) h rfl (by rw [List.length_nil]; omega)]
  simp [encN]
theorem wire_Take.of (s : List UInt8) : wire_Take.f (B s) = match takeL s with | none => some (0, B [], 2) | some (n, r) => some ((n : Int), B r, 0) := rfl
theorem wire_limited.of (s : List UInt8) (many : Int) (h0 : -9223372036854775808 ≤ many) (h1 : many ≤ 9223372036854775807) :
    wire_limited.f (B s) many = match takeL s with | none => some (0, B [], 2) | some (n, r) => if many < (n : Int) ∧ 0 < n then some (0, B [], 10) else some ((n : Int), B r, 0) := by
  unfold wire_limited.f
  rw [wire_Take.of]
  cases ht : takeL s with
  | none =>
    rw [Option.bind_some, if_neg (by decide)]
    rfl
  | some p =>
    obtain ⟨n, r⟩ := p
    have hn := (takeL_some s n r ht).2
    have hm : IntKind.u64.wrap (mx many 0) = if 0 ≤ many then many else 0 := by
      rw [mx0]; split <;> rw [wu64 _ (by omega) (by omega)]
    rw [Option.bind_some, if_pos rfl, hm]
    simp only
    by_cases hc : many < (n : Int) ∧ 0 < n
    · rw [if_pos hc, if_pos (by split <;> omega)]
      rfl
    · have hc2 : ¬ ((n : Int) > if 0 ≤ many then many else 0) := by split <;> omega
      rw [if_neg hc, if_neg hc2, w64 _ (by omega) (by split at hc2 <;> omega)]
def tt (p : List UInt8 × List UInt8 × Int) : ByteArray × ByteArray × Int := (B p.1, B p.2.1, p.2.2)
theorem wire_TakeText.ev (s : List UInt8) (most : Int) (h0 : -9223372036854775808 ≤ most) (h1 : most ≤ 9223372036854775807) :
    Ev (fun k => wire_TakeText.f k (B s) most) (tt (takeTextL s most)) := by
  refine ⟨1, fun k hk => ?_⟩
  obtain ⟨k, rfl⟩ : ∃ m, k = m + 1 := ⟨k - 1, by omega⟩
  show wire_TakeText.f (k + 1) (B s) most = _
  unfold wire_TakeText.f takeTextL
  rw [wire_limited.of s most h0 h1]
  cases ht : takeL s with
  | none =>
    rw [Option.bind_some, if_neg (by decide), wire_TakeText.j0, if_neg (by decide), if_neg (by decide)]
    rfl
  | some p =>
    obtain ⟨n, r⟩ := p
    have hn := (takeL_some s n r ht).2
    by_cases hc : most < (n : Int) ∧ 0 < n
    · simp only
      rw [if_pos hc, if_pos hc, Option.bind_some, if_neg (by decide), wire_TakeText.j0, if_neg (by decide), if_neg (by decide)]
      rfl
    · simp only
      rw [if_neg hc, if_neg hc, Option.bind_some, if_pos rfl, wire_TakeText.j0]
      by_cases hl : r.length < n
      · rw [if_pos hl, if_pos (by rw [decide_eq_true_iff, size_B]; omega)]
        rfl
      · rw [if_neg hl, if_neg (by rw [decide_eq_true_iff, size_B]; omega), if_pos rfl, if_pos (by omega), if_pos (by rw [size_B]; omega), extract_B, extract_B, size_B, Int.toNat_natCast, List.drop_zero, List.take_length]
        rfl
theorem flat_B (l : List (List UInt8)) : flat (l.map B) = l.flatten := by
  unfold flat
  rw [List.map_map]
  congr 1
  rw [show (S ∘ B) = id from by funext x; exact S_B x, List.map_id]
theorem wire_join.of (l : List (List UInt8)) (h1 : l.flatten.length ≤ 140737488355328) (h2 : l.length ≤ 140737488355328) : wire_join.f (l.map B) = some (B l.flatten) := by
  unfold wire_join.f
  rw [flat_B, if_pos ⟨h1, by rw [List.length_map]; exact h2⟩]
theorem textL_len (t : List UInt8) (h : t.length ≤ 1000000000) : (textL t).length ≤ t.length + 9 := by
  have := encN_len t.length (by omega)
  unfold textL
  rw [List.length_append]
  omega
theorem wire_PutText.ev (t : List UInt8) (h : t.length ≤ 1000000000) : Ev (fun k => wire_PutText.f k (B t)) (B (textL t)) := by
  obtain ⟨K, hK⟩ := wire_Put.ev t.length (by omega)
  have hl := encN_len t.length (by omega)
  refine ⟨K, fun k hk => ?_⟩
  show wire_PutText.f k (B t) = _
  have e : wire_Put.f k ((t.length : Nat) : Int) = _ := hK k hk
  unfold wire_PutText.f
  rw [size_B, wu64 _ (by omega) (by omega), e, Option.bind_some, show [B (encN t.length), B t] = [encN t.length, t].map B from rfl, wire_join.of _ (by simp; omega) (by simp), Option.bind_some]
  unfold textL
  simp
theorem rdOf_B (l : List (List UInt8)) (i : Nat) : rdOf ByteArray.empty (l.map B) (i : Int) = B (l.getD i []) := by
  unfold rdOf
  rw [Int.toNat_natCast, List.getD_eq_getElem?_getD, List.getD_eq_getElem?_getD, List.getElem?_map]
  cases l[i]? <;> rfl
theorem drop_getD {α : Type} (l : List α) (i : Nat) (d : α) (h : i < l.length) : l.drop i = l.getD i d :: l.drop (i + 1) := by
  rw [List.drop_eq_getElem_cons h]
  simp [List.getD_eq_getElem?_getD, h]
theorem ref2_take_loop (s : List UInt8) (z : Nat) (hz : z ≤ 8) (hl : z + 1 ≤ s.length) (hb : s.length ≤ 1000000000) : ∀ (m i k : Nat), i + m = z → m < k →
    letterlockref2_Take.l0 k (B s) ((numOf ((s.drop 1).take i) : Nat) : Int) ((1 + z : Nat) : Int) ((1 + i : Nat) : Int) = some (((numOf ((s.drop 1).take z) : Nat) : Int), B (s.drop (1 + z)), 0) := by
  intro m
  induction m with
  | zero =>
    intro i k hi hk
    obtain ⟨k, rfl⟩ : ∃ m, k = m + 1 := ⟨k - 1, by omega⟩
    obtain rfl : i = z := by omega
    rw [letterlockref2_Take.l0, if_neg (by omega), if_pos (by omega), if_pos (by rw [size_B]; omega), extract_B, size_B, Int.toNat_natCast, List.take_length]
  | succ m ih =>
    intro i k hi hk
    obtain ⟨k, rfl⟩ : ∃ m, k = m + 1 := ⟨k - 1, by omega⟩
    have hs := numOf_step (s.drop 1) i (by rw [List.length_drop]; omega)
    have hn := numOf_small (s.drop 1) i (by omega)
    have hb2 := ((s.drop 1).getD i 0).toNat_lt
    have hg : (s.drop 1).getD i 0 = s.getD (1 + i) 0 := by simp [List.getD_eq_getElem?_getD, List.getElem?_drop, Nat.add_comm]
    rw [hg] at hs hb2
    rw [letterlockref2_Take.l0, if_pos (by omega), if_pos (by omega), if_pos (by rw [size_B]; omega), bt_B, Int.toNat_natCast]
    rw [wu64 (256 * _) (by omega) (by omega), wu64 (((s.getD (1 + i) 0).toNat : Nat) : Int) (by omega) (by omega), wu64 _ (by omega) (by omega), w64 _ (by omega) (by omega)]
    rw [show (256 : Int) * ((numOf ((s.drop 1).take i) : Nat) : Int) + (((s.getD (1 + i) 0).toNat : Nat) : Int) = ((numOf ((s.drop 1).take (i + 1)) : Nat) : Int) from by omega,
      show ((1 + i : Nat) : Int) + 1 = ((1 + (i + 1) : Nat) : Int) from by omega]
    exact ih (i + 1) k (by omega) (by omega)
theorem letterlockref2_Take.ev (s : List UInt8) (hb : s.length ≤ 1000000000) : Ev (fun k => letterlockref2_Take.f k (B s)) (match takeL s with | none => (0, B [], 2) | some (n, r) => ((n : Int), B r, 0)) := by
  refine ⟨12, fun k hk => ?_⟩
  obtain ⟨k, rfl⟩ : ∃ m, k = m + 1 := ⟨k - 1, by omega⟩
  show letterlockref2_Take.f (k + 1) (B s) = _
  unfold letterlockref2_Take.f
  have bad : letterlockref2_Take.j0 (k + 1) (B s) true = some (0, B [], 2) := by
    rw [letterlockref2_Take.j0, if_pos rfl]
    rfl
  rw [toList_B, bad]
  cases s with
  | nil => rw [if_pos rfl]; rfl
  | cons z r =>
    have hzl := z.toNat_lt
    have b0 : bt (B (z :: r)) 0 = ((z.toNat : Nat) : Int) := by rw [bt_B]; rfl
    have b1 : bt (B (z :: r)) 1 = (((r.getD 0 0).toNat : Nat) : Int) := by rw [bt_B]; simp [List.getD_eq_getElem?_getD]
    have hl : (z :: r).length = r.length + 1 := rfl
    have wz : wrap64 ((z.toNat : Nat) : Int) = ((z.toNat : Nat) : Int) := w64 _ (by omega) (by omega)
    rw [hl] at hb
    rw [if_neg (by simp), size_B, hl, if_pos (by omega), b0, b1, wz, w64 _ (by omega) (by omega)]
    have good : z.toNat ≤ 8 → z.toNat ≤ r.length → letterlockref2_Take.j0 (k + 1) (B (z :: r)) false = some (((numOf (r.take z.toNat) : Nat) : Int), B (r.drop z.toNat), 0) := by
      intro h8 hlen
      have L := ref2_take_loop (z :: r) z.toNat h8 (by rw [hl]; omega) (by rw [hl]; omega) z.toNat 0 k (by omega) (by omega)
      rw [letterlockref2_Take.j0, if_neg (by decide), if_pos (by rw [size_B, hl]; omega), b0, wz, w64 _ (by omega) (by omega)]
      rw [show (1 : Int) + ((z.toNat : Nat) : Int) = ((1 + z.toNat : Nat) : Int) from by omega]
      refine Eq.trans ?_ (L.trans ?_)
      · rfl
      · rw [Nat.add_comm 1]; rfl
    simp only [takeL]
    by_cases h8 : z.toNat ≤ 8
    · rw [if_neg (by omega)]
      by_cases hlen : z.toNat ≤ r.length
      · rw [if_neg (by omega)]
        by_cases hz : 0 < z.toNat
        · rw [if_pos (by omega), if_pos (by omega)]
          by_cases h0 : r.getD 0 0 = 0
          · rw [if_neg (fun h => h.2.2 ⟨hz, h0⟩), h0, show ((((0 : UInt8).toNat : Nat) : Int) == 0) = true from rfl, bad]
          · have h1 : ((((r.getD 0 0).toNat : Nat) : Int) == 0) = false := by
              rw [beq_eq_false_iff_ne]
              intro e
              exact h0 (UInt8.toNat_inj.mp (by simpa using (by omega : (r.getD 0 0).toNat = 0)))
            rw [if_pos ⟨h8, hlen, fun h => h0 h.2⟩, h1, good h8 hlen]
        · rw [if_neg (by omega), if_pos ⟨h8, hlen, fun h => hz h.1⟩, good h8 hlen]
      · rw [if_pos (by omega), if_neg (fun h => hlen h.2.1)]
    · rw [if_pos (by omega), if_neg (fun h => h8 h.1)]
theorem letterlockref2_TakeText.ev (s : List UInt8) (most : Int) (hb : s.length ≤ 1000000000) (h0 : -9223372036854775808 ≤ most) (h1 : most ≤ 9223372036854775807) :
    Ev (fun k => letterlockref2_TakeText.f k (B s) most) (tt (takeTextL s most)) := by
  obtain ⟨K, hK⟩ := letterlockref2_Take.ev s hb
  refine ⟨K, fun k hk => ?_⟩
  have e : letterlockref2_Take.f k (B s) = _ := hK k hk
  show letterlockref2_TakeText.f k (B s) most = _
  unfold letterlockref2_TakeText.f takeTextL
  rw [e]
  cases ht : takeL s with
  | none =>
    rw [Option.bind_some, if_neg (by decide)]
    rfl
  | some p =>
    obtain ⟨n, r⟩ := p
    have hn := (takeL_some s n r ht).2
    have hl := takeL_len s n r ht
    have hm : IntKind.u64.wrap (mx most 0) = if 0 ≤ most then most else 0 := by
      rw [mx0]; split <;> rw [wu64 _ (by omega) (by omega)]
    rw [Option.bind_some, if_pos rfl, hm]
    simp only
    rw [size_B, wu64 _ (by omega) (by omega)]
    by_cases hc : most < (n : Int) ∧ 0 < n
    · rw [if_pos hc, if_pos (by split <;> omega)]
      rfl
    · have hc2 : ¬ ((n : Int) > if 0 ≤ most then most else 0) := by split <;> omega
      rw [if_neg hc, if_neg hc2]
      by_cases hl2 : r.length < n
      · rw [if_pos hl2, if_pos (by omega)]
        rfl
      · rw [if_neg hl2, if_neg (by omega), if_pos (by omega), if_pos (by omega), extract_B, extract_B, Int.toNat_natCast, List.drop_zero, List.take_length]
        rfl
theorem letterlockref2_PutText.ev (t : List UInt8) (h : t.length ≤ 1000000000) : Ev (fun k => letterlockref2_PutText.f k (B t)) (B (textL t)) := by
  obtain ⟨K, hK⟩ := letterlockref2_Put.ev t.length (by omega)
  have hl := encN_len t.length (by omega)
  refine ⟨K, fun k hk => ?_⟩
  show letterlockref2_PutText.f k (B t) = _
  have e : letterlockref2_Put.f k ((t.length : Nat) : Int) = _ := hK k hk
  unfold letterlockref2_PutText.f
  rw [size_B, wu64 _ (by omega) (by omega), e, Option.bind_some, if_pos (by rw [size_B]; omega), append_B]
  rfl
end Go.Proofs.YtodiffgpefidoaaGreatDoor.P

